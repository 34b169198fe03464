/-
  No cell of these rows narrows 'for every input' (looked for: loops, veiled, ifaces, maps, wideKeys, modest, calm, conditions, laid).
  DERIVED. THE GIVEN ROWS OF THIS SEAT. 7 by the template 'for every input the law returns true; each argument reads behind the call as it read before'; 0 by the template 'total and deterministic' (their statements: YtmieoifagnpbiaaTotals.lean).
  GIVEN WITH THE SEED: the statements are not yours to turn. If you find one false, say at which input.
  Laid BY PROGRAM, IN A SANDBOX (cutbox-rows.mjs): the forced cells as the released guide's own fill.sh prints them over the translation 2ea91be7ea4da9ae… (all of the seat's roots in one cut). By AI agents, Wed Nov 11 2026. No macro, syntax, notation, axiom, sorry.
-/
import Derived.Test.YtmieoifagnpbiaaChecked
import GoSem.Claim
import GoSem.ClaimJoined
import GoSem.ClaimMapViews
import Derived.JoinedTies
import Derived.KernelRfl
namespace Go.Proofs.Ytmieoifagnpbiaa
/- THE CELL 'sum', in the pinned program and in every row, IS THE sha256 OF THE DUMP (.gsa) THAT YtmieoifagnpbiaaProg.lean LOADS. Nothing in Lean hashes anything: it is a label: what it is worth is what the hold of that sum in a sandbox is worth. -/
noncomputable def Try.pinned : Pinned := { name := "ytmieoifagnpbiaa", sum := "2ea91be7ea4da9ae37d6e3009773166fe888e25642000e4675f455a3491ff582", checked := Try.checked }
namespace Rows
def none {H : Type} : Left H := { results := [], args := [] }

/-- 'waveletlaw12.CanvasRows': WHATEVER THE INPUT: true; the input reads as it did. -/
def canvasRowsSpec : ChangeSpec := { name := "canvasRows", fn := fun _ => fun
  | [d1, d2] => { results := [.lit (.bool true)], args := [d1, d2] }
  | _ => none }
def canvasRowsRow : OpenClaim := { program := "ytmieoifagnpbiaa", sum := "2ea91be7ea4da9ae37d6e3009773166fe888e25642000e4675f455a3491ff582", func := "wavelet/waveletlaw12.CanvasRows", spec := "canvasRows", unfollowed := true, recurses := true, apart := false }
def CanvasRowsSaid : Prop := canvasRowsRow.holds Try.pinned (OpenSpec.ofChange canvasRowsSpec)

/-- ITS FALSE NEIGHBOUR: 'it returns false'. Refute it at one input. -/
def canvasRowsWrong : ChangeSpec := { name := "canvasRows", fn := fun _ => fun
  | [d1, d2] => { results := [.lit (.bool false)], args := [d1, d2] }
  | _ => none }
def CanvasRowsWrongFalsely : Prop := canvasRowsRow.holds Try.pinned (OpenSpec.ofChange canvasRowsWrong)

/-- 'waveletlaw12.CanvasTurn': WHATEVER THE INPUT: true; the input reads as it did. -/
def canvasTurnSpec : ChangeSpec := { name := "canvasTurn", fn := fun _ => fun
  | [d1, d2, d3] => { results := [.lit (.bool true)], args := [d1, d2, d3] }
  | _ => none }
def canvasTurnRow : OpenClaim := { program := "ytmieoifagnpbiaa", sum := "2ea91be7ea4da9ae37d6e3009773166fe888e25642000e4675f455a3491ff582", func := "wavelet/waveletlaw12.CanvasTurn", spec := "canvasTurn", unfollowed := true, recurses := true, apart := false }
def CanvasTurnSaid : Prop := canvasTurnRow.holds Try.pinned (OpenSpec.ofChange canvasTurnSpec)

/-- ITS FALSE NEIGHBOUR: 'it returns false'. Refute it at one input. -/
def canvasTurnWrong : ChangeSpec := { name := "canvasTurn", fn := fun _ => fun
  | [d1, d2, d3] => { results := [.lit (.bool false)], args := [d1, d2, d3] }
  | _ => none }
def CanvasTurnWrongFalsely : Prop := canvasTurnRow.holds Try.pinned (OpenSpec.ofChange canvasTurnWrong)

/-- 'waveletlaw12.CanvasChecks': WHATEVER THE INPUT: true; the input reads as it did. -/
def canvasChecksSpec : ChangeSpec := { name := "canvasChecks", fn := fun _ => fun
  | [d1, d2, d3, d4, d5] => { results := [.lit (.bool true)], args := [d1, d2, d3, d4, d5] }
  | _ => none }
def canvasChecksRow : OpenClaim := { program := "ytmieoifagnpbiaa", sum := "2ea91be7ea4da9ae37d6e3009773166fe888e25642000e4675f455a3491ff582", func := "wavelet/waveletlaw12.CanvasChecks", spec := "canvasChecks", unfollowed := true, recurses := true, apart := false }
def CanvasChecksSaid : Prop := canvasChecksRow.holds Try.pinned (OpenSpec.ofChange canvasChecksSpec)

/-- ITS FALSE NEIGHBOUR: 'it returns false'. Refute it at one input. -/
def canvasChecksWrong : ChangeSpec := { name := "canvasChecks", fn := fun _ => fun
  | [d1, d2, d3, d4, d5] => { results := [.lit (.bool false)], args := [d1, d2, d3, d4, d5] }
  | _ => none }
def CanvasChecksWrongFalsely : Prop := canvasChecksRow.holds Try.pinned (OpenSpec.ofChange canvasChecksWrong)

/-- 'waveletlaw12.CanvasSamples': WHATEVER THE INPUT: true; the input reads as it did. -/
def canvasSamplesSpec : ChangeSpec := { name := "canvasSamples", fn := fun _ => fun
  | [d1, d2, d3, d4, d5, d6, d7] => { results := [.lit (.bool true)], args := [d1, d2, d3, d4, d5, d6, d7] }
  | _ => none }
def canvasSamplesRow : OpenClaim := { program := "ytmieoifagnpbiaa", sum := "2ea91be7ea4da9ae37d6e3009773166fe888e25642000e4675f455a3491ff582", func := "wavelet/waveletlaw12.CanvasSamples", spec := "canvasSamples", unfollowed := true, recurses := true, apart := false }
def CanvasSamplesSaid : Prop := canvasSamplesRow.holds Try.pinned (OpenSpec.ofChange canvasSamplesSpec)

/-- ITS FALSE NEIGHBOUR: 'it returns false'. Refute it at one input. -/
def canvasSamplesWrong : ChangeSpec := { name := "canvasSamples", fn := fun _ => fun
  | [d1, d2, d3, d4, d5, d6, d7] => { results := [.lit (.bool false)], args := [d1, d2, d3, d4, d5, d6, d7] }
  | _ => none }
def CanvasSamplesWrongFalsely : Prop := canvasSamplesRow.holds Try.pinned (OpenSpec.ofChange canvasSamplesWrong)

/-- 'waveletlaw12.CanvasPlaces': WHATEVER THE INPUT: true; the input reads as it did. -/
def canvasPlacesSpec : ChangeSpec := { name := "canvasPlaces", fn := fun _ => fun
  | [d] => { results := [.lit (.bool true)], args := [d] }
  | _ => none }
def canvasPlacesRow : OpenClaim := { program := "ytmieoifagnpbiaa", sum := "2ea91be7ea4da9ae37d6e3009773166fe888e25642000e4675f455a3491ff582", func := "wavelet/waveletlaw12.CanvasPlaces", spec := "canvasPlaces", unfollowed := true, recurses := true, apart := false }
def CanvasPlacesSaid : Prop := canvasPlacesRow.holds Try.pinned (OpenSpec.ofChange canvasPlacesSpec)

/-- ITS FALSE NEIGHBOUR: 'it returns false'. Refute it at one input. -/
def canvasPlacesWrong : ChangeSpec := { name := "canvasPlaces", fn := fun _ => fun
  | [d] => { results := [.lit (.bool false)], args := [d] }
  | _ => none }
def CanvasPlacesWrongFalsely : Prop := canvasPlacesRow.holds Try.pinned (OpenSpec.ofChange canvasPlacesWrong)

/-- 'waveletlaw12.CanvasCovers': WHATEVER THE INPUT: true; the input reads as it did. -/
def canvasCoversSpec : ChangeSpec := { name := "canvasCovers", fn := fun _ => fun
  | [d] => { results := [.lit (.bool true)], args := [d] }
  | _ => none }
def canvasCoversRow : OpenClaim := { program := "ytmieoifagnpbiaa", sum := "2ea91be7ea4da9ae37d6e3009773166fe888e25642000e4675f455a3491ff582", func := "wavelet/waveletlaw12.CanvasCovers", spec := "canvasCovers", unfollowed := true, recurses := true, apart := false }
def CanvasCoversSaid : Prop := canvasCoversRow.holds Try.pinned (OpenSpec.ofChange canvasCoversSpec)

/-- ITS FALSE NEIGHBOUR: 'it returns false'. Refute it at one input. -/
def canvasCoversWrong : ChangeSpec := { name := "canvasCovers", fn := fun _ => fun
  | [d] => { results := [.lit (.bool false)], args := [d] }
  | _ => none }
def CanvasCoversWrongFalsely : Prop := canvasCoversRow.holds Try.pinned (OpenSpec.ofChange canvasCoversWrong)

/-- 'waveletlaw12.CanvasBlocks': WHATEVER THE INPUT: true; the input reads as it did. -/
def canvasBlocksSpec : ChangeSpec := { name := "canvasBlocks", fn := fun _ => fun
  | [d1, d2, d3] => { results := [.lit (.bool true)], args := [d1, d2, d3] }
  | _ => none }
def canvasBlocksRow : OpenClaim := { program := "ytmieoifagnpbiaa", sum := "2ea91be7ea4da9ae37d6e3009773166fe888e25642000e4675f455a3491ff582", func := "wavelet/waveletlaw12.CanvasBlocks", spec := "canvasBlocks", unfollowed := true, recurses := true, apart := false }
def CanvasBlocksSaid : Prop := canvasBlocksRow.holds Try.pinned (OpenSpec.ofChange canvasBlocksSpec)

/-- ITS FALSE NEIGHBOUR: 'it returns false'. Refute it at one input. -/
def canvasBlocksWrong : ChangeSpec := { name := "canvasBlocks", fn := fun _ => fun
  | [d1, d2, d3] => { results := [.lit (.bool false)], args := [d1, d2, d3] }
  | _ => none }
def CanvasBlocksWrongFalsely : Prop := canvasBlocksRow.holds Try.pinned (OpenSpec.ofChange canvasBlocksWrong)

/- THE SECOND FORM. 'bulk': how many values and letters a reading holds, each counted each time it is reached (what is shared counts as often as it is met; a slice's spare places count too). A statement '..UptoSaid' is the law's where the arguments, and the package variables that the reading takes, are together of bulk at most 1048576: NARROWER than '..Said'. Prove '..Said' where nothing that the law and all that it calls make is longer than what came in: it says more and counts as full. Else prove '..UptoSaid'. A law counts once. -/
mutual
def uptoBulk {H : Type} : DataW H → Nat
  | .lit (.string bytes) => bytes.length + 1
  | .lit _ => 1
  | .nil => 1
  | .ptr d => uptoBulk d + 1
  | .slice elems spare => uptoBulkAll elems + uptoBulkAll spare + 1
  | .agg parts => uptoBulkAll parts + 1
  | .iface _ d => uptoBulk d + 1
  | .map entries => uptoBulkEntries entries + 1
  | .held _ => 1
def uptoBulkAll {H : Type} : List (DataW H) → Nat
  | [] => 0
  | d :: r => uptoBulk d + uptoBulkAll r
def uptoBulkEntries {H : Type} : List (Lit × DataW H) → Nat
  | [] => 0
  | x :: r => uptoBulkEntry x + uptoBulkEntries r
def uptoBulkEntry {H : Type} : Lit × DataW H → Nat
  | (.string bytes, d) => bytes.length + uptoBulk d + 1
  | (_, d) => uptoBulk d + 1
 end
def uptoSmall : (H : Type) → List (DataW H) → Bool := fun _ ds => decide (uptoBulkAll ds ≤ 1048576)
def OpenSpec.upto (s : _root_.Go.ChangeSpec) : _root_.Go.OpenSpec := { _root_.Go.OpenSpec.ofChange s with cond := some uptoSmall }

/-- 'waveletlaw12.CanvasRows', WHERE WHAT IT READS IS OF BULK AT MOST 1048576: true; the input reads as it did. -/
def canvasRowsUptoRow : OpenClaim := { program := "ytmieoifagnpbiaa", sum := "2ea91be7ea4da9ae37d6e3009773166fe888e25642000e4675f455a3491ff582", func := "wavelet/waveletlaw12.CanvasRows", spec := "canvasRows", unfollowed := true, recurses := true, apart := false, narrowed := true }
def CanvasRowsUptoSaid : Prop := canvasRowsUptoRow.holds Try.pinned (OpenSpec.upto canvasRowsSpec)

/-- 'waveletlaw12.CanvasTurn', WHERE WHAT IT READS IS OF BULK AT MOST 1048576: true; the input reads as it did. -/
def canvasTurnUptoRow : OpenClaim := { program := "ytmieoifagnpbiaa", sum := "2ea91be7ea4da9ae37d6e3009773166fe888e25642000e4675f455a3491ff582", func := "wavelet/waveletlaw12.CanvasTurn", spec := "canvasTurn", unfollowed := true, recurses := true, apart := false, narrowed := true }
def CanvasTurnUptoSaid : Prop := canvasTurnUptoRow.holds Try.pinned (OpenSpec.upto canvasTurnSpec)

/-- 'waveletlaw12.CanvasChecks', WHERE WHAT IT READS IS OF BULK AT MOST 1048576: true; the input reads as it did. -/
def canvasChecksUptoRow : OpenClaim := { program := "ytmieoifagnpbiaa", sum := "2ea91be7ea4da9ae37d6e3009773166fe888e25642000e4675f455a3491ff582", func := "wavelet/waveletlaw12.CanvasChecks", spec := "canvasChecks", unfollowed := true, recurses := true, apart := false, narrowed := true }
def CanvasChecksUptoSaid : Prop := canvasChecksUptoRow.holds Try.pinned (OpenSpec.upto canvasChecksSpec)

/-- 'waveletlaw12.CanvasSamples', WHERE WHAT IT READS IS OF BULK AT MOST 1048576: true; the input reads as it did. -/
def canvasSamplesUptoRow : OpenClaim := { program := "ytmieoifagnpbiaa", sum := "2ea91be7ea4da9ae37d6e3009773166fe888e25642000e4675f455a3491ff582", func := "wavelet/waveletlaw12.CanvasSamples", spec := "canvasSamples", unfollowed := true, recurses := true, apart := false, narrowed := true }
def CanvasSamplesUptoSaid : Prop := canvasSamplesUptoRow.holds Try.pinned (OpenSpec.upto canvasSamplesSpec)

/-- 'waveletlaw12.CanvasPlaces', WHERE WHAT IT READS IS OF BULK AT MOST 1048576: true; the input reads as it did. -/
def canvasPlacesUptoRow : OpenClaim := { program := "ytmieoifagnpbiaa", sum := "2ea91be7ea4da9ae37d6e3009773166fe888e25642000e4675f455a3491ff582", func := "wavelet/waveletlaw12.CanvasPlaces", spec := "canvasPlaces", unfollowed := true, recurses := true, apart := false, narrowed := true }
def CanvasPlacesUptoSaid : Prop := canvasPlacesUptoRow.holds Try.pinned (OpenSpec.upto canvasPlacesSpec)

/-- 'waveletlaw12.CanvasCovers', WHERE WHAT IT READS IS OF BULK AT MOST 1048576: true; the input reads as it did. -/
def canvasCoversUptoRow : OpenClaim := { program := "ytmieoifagnpbiaa", sum := "2ea91be7ea4da9ae37d6e3009773166fe888e25642000e4675f455a3491ff582", func := "wavelet/waveletlaw12.CanvasCovers", spec := "canvasCovers", unfollowed := true, recurses := true, apart := false, narrowed := true }
def CanvasCoversUptoSaid : Prop := canvasCoversUptoRow.holds Try.pinned (OpenSpec.upto canvasCoversSpec)

/-- 'waveletlaw12.CanvasBlocks', WHERE WHAT IT READS IS OF BULK AT MOST 1048576: true; the input reads as it did. -/
def canvasBlocksUptoRow : OpenClaim := { program := "ytmieoifagnpbiaa", sum := "2ea91be7ea4da9ae37d6e3009773166fe888e25642000e4675f455a3491ff582", func := "wavelet/waveletlaw12.CanvasBlocks", spec := "canvasBlocks", unfollowed := true, recurses := true, apart := false, narrowed := true }
def CanvasBlocksUptoSaid : Prop := canvasBlocksUptoRow.holds Try.pinned (OpenSpec.upto canvasBlocksSpec)

end Rows
end Go.Proofs.Ytmieoifagnpbiaa
