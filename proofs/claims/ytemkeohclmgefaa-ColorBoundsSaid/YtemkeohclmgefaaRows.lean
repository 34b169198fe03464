/-
  No cell of these rows narrows 'for every input' (looked for: loops, veiled, ifaces, maps, wideKeys, modest, calm, conditions, laid).
  DERIVED. THE GIVEN ROWS OF THIS SEAT. 8 by the template 'for every input the law returns true; each argument reads behind the call as it read before'; 0 by the template 'total and deterministic' (their statements: YtemkeohclmgefaaTotals.lean).
  GIVEN WITH THE SEED: the statements are not yours to turn. If you find one false, say at which input.
  Laid BY PROGRAM, IN A SANDBOX (cutbox-rows.mjs): the forced cells as the released guide's own fill.sh prints them over the translation a660dbc76c450e36… (all of the seat's roots in one cut). By AI agents, Wed Nov 11 2026. No macro, syntax, notation, axiom, sorry.
-/
import Derived.Test.YtemkeohclmgefaaChecked
import GoSem.Claim
import GoSem.ClaimJoined
import GoSem.ClaimMapViews
import Derived.JoinedTies
import Derived.KernelRfl
namespace Go.Proofs.Ytemkeohclmgefaa
/- THE CELL 'sum', in the pinned program and in every row, IS THE sha256 OF THE DUMP (.gsa) THAT YtemkeohclmgefaaProg.lean LOADS. Nothing in Lean hashes anything: it is a label: what it is worth is what the hold of that sum in a sandbox is worth. -/
noncomputable def Try.pinned : Pinned := { name := "ytemkeohclmgefaa", sum := "a660dbc76c450e36b810fa277a542e45dbd1887758bee6d31d2a11ad7ce202f0", checked := Try.checked }
namespace Rows
def none {H : Type} : Left H := { results := [], args := [] }

/-- 'waveletlaw11.ColorGray': WHATEVER THE INPUT: true; the input reads as it did. -/
def colorGraySpec : ChangeSpec := { name := "colorGray", fn := fun _ => fun
  | [d] => { results := [.lit (.bool true)], args := [d] }
  | _ => none }
def colorGrayRow : OpenClaim := { program := "ytemkeohclmgefaa", sum := "a660dbc76c450e36b810fa277a542e45dbd1887758bee6d31d2a11ad7ce202f0", func := "wavelet/waveletlaw11.ColorGray", spec := "colorGray", unfollowed := true, recurses := true, apart := false }
def ColorGraySaid : Prop := colorGrayRow.holds Try.pinned (OpenSpec.ofChange colorGraySpec)

/-- ITS FALSE NEIGHBOUR: 'it returns false'. Refute it at one input. -/
def colorGrayWrong : ChangeSpec := { name := "colorGray", fn := fun _ => fun
  | [d] => { results := [.lit (.bool false)], args := [d] }
  | _ => none }
def ColorGrayWrongFalsely : Prop := colorGrayRow.holds Try.pinned (OpenSpec.ofChange colorGrayWrong)

/-- 'waveletlaw11.ColorPlaces': WHATEVER THE INPUT: true; the input reads as it did. -/
def colorPlacesSpec : ChangeSpec := { name := "colorPlaces", fn := fun _ => fun
  | [d1, d2, d3, d4] => { results := [.lit (.bool true)], args := [d1, d2, d3, d4] }
  | _ => none }
def colorPlacesRow : OpenClaim := { program := "ytemkeohclmgefaa", sum := "a660dbc76c450e36b810fa277a542e45dbd1887758bee6d31d2a11ad7ce202f0", func := "wavelet/waveletlaw11.ColorPlaces", spec := "colorPlaces", unfollowed := true, recurses := true, apart := false }
def ColorPlacesSaid : Prop := colorPlacesRow.holds Try.pinned (OpenSpec.ofChange colorPlacesSpec)

/-- ITS FALSE NEIGHBOUR: 'it returns false'. Refute it at one input. -/
def colorPlacesWrong : ChangeSpec := { name := "colorPlaces", fn := fun _ => fun
  | [d1, d2, d3, d4] => { results := [.lit (.bool false)], args := [d1, d2, d3, d4] }
  | _ => none }
def ColorPlacesWrongFalsely : Prop := colorPlacesRow.holds Try.pinned (OpenSpec.ofChange colorPlacesWrong)

/-- 'waveletlaw11.ColorSwaps': WHATEVER THE INPUT: true; the input reads as it did. -/
def colorSwapsSpec : ChangeSpec := { name := "colorSwaps", fn := fun _ => fun
  | [d1, d2, d3] => { results := [.lit (.bool true)], args := [d1, d2, d3] }
  | _ => none }
def colorSwapsRow : OpenClaim := { program := "ytemkeohclmgefaa", sum := "a660dbc76c450e36b810fa277a542e45dbd1887758bee6d31d2a11ad7ce202f0", func := "wavelet/waveletlaw11.ColorSwaps", spec := "colorSwaps", unfollowed := true, recurses := true, apart := false }
def ColorSwapsSaid : Prop := colorSwapsRow.holds Try.pinned (OpenSpec.ofChange colorSwapsSpec)

/-- ITS FALSE NEIGHBOUR: 'it returns false'. Refute it at one input. -/
def colorSwapsWrong : ChangeSpec := { name := "colorSwaps", fn := fun _ => fun
  | [d1, d2, d3] => { results := [.lit (.bool false)], args := [d1, d2, d3] }
  | _ => none }
def ColorSwapsWrongFalsely : Prop := colorSwapsRow.holds Try.pinned (OpenSpec.ofChange colorSwapsWrong)

/-- 'waveletlaw11.ColorTurns': WHATEVER THE INPUT: true; the input reads as it did. -/
def colorTurnsSpec : ChangeSpec := { name := "colorTurns", fn := fun _ => fun
  | [d1, d2, d3] => { results := [.lit (.bool true)], args := [d1, d2, d3] }
  | _ => none }
def colorTurnsRow : OpenClaim := { program := "ytemkeohclmgefaa", sum := "a660dbc76c450e36b810fa277a542e45dbd1887758bee6d31d2a11ad7ce202f0", func := "wavelet/waveletlaw11.ColorTurns", spec := "colorTurns", unfollowed := true, recurses := true, apart := false }
def ColorTurnsSaid : Prop := colorTurnsRow.holds Try.pinned (OpenSpec.ofChange colorTurnsSpec)

/-- ITS FALSE NEIGHBOUR: 'it returns false'. Refute it at one input. -/
def colorTurnsWrong : ChangeSpec := { name := "colorTurns", fn := fun _ => fun
  | [d1, d2, d3] => { results := [.lit (.bool false)], args := [d1, d2, d3] }
  | _ => none }
def ColorTurnsWrongFalsely : Prop := colorTurnsRow.holds Try.pinned (OpenSpec.ofChange colorTurnsWrong)

/-- 'waveletlaw11.ColorBounds': WHATEVER THE INPUT: true; the input reads as it did. -/
def colorBoundsSpec : ChangeSpec := { name := "colorBounds", fn := fun _ => fun
  | [d1, d2] => { results := [.lit (.bool true)], args := [d1, d2] }
  | _ => none }
def colorBoundsRow : OpenClaim := { program := "ytemkeohclmgefaa", sum := "a660dbc76c450e36b810fa277a542e45dbd1887758bee6d31d2a11ad7ce202f0", func := "wavelet/waveletlaw11.ColorBounds", spec := "colorBounds", unfollowed := true, recurses := true, apart := false }
def ColorBoundsSaid : Prop := colorBoundsRow.holds Try.pinned (OpenSpec.ofChange colorBoundsSpec)

/-- ITS FALSE NEIGHBOUR: 'it returns false'. Refute it at one input. -/
def colorBoundsWrong : ChangeSpec := { name := "colorBounds", fn := fun _ => fun
  | [d1, d2] => { results := [.lit (.bool false)], args := [d1, d2] }
  | _ => none }
def ColorBoundsWrongFalsely : Prop := colorBoundsRow.holds Try.pinned (OpenSpec.ofChange colorBoundsWrong)

/-- 'waveletlaw11.ColorClips': WHATEVER THE INPUT: true; the input reads as it did. -/
def colorClipsSpec : ChangeSpec := { name := "colorClips", fn := fun _ => fun
  | [d1, d2, d3] => { results := [.lit (.bool true)], args := [d1, d2, d3] }
  | _ => none }
def colorClipsRow : OpenClaim := { program := "ytemkeohclmgefaa", sum := "a660dbc76c450e36b810fa277a542e45dbd1887758bee6d31d2a11ad7ce202f0", func := "wavelet/waveletlaw11.ColorClips", spec := "colorClips", unfollowed := true, recurses := true, apart := false }
def ColorClipsSaid : Prop := colorClipsRow.holds Try.pinned (OpenSpec.ofChange colorClipsSpec)

/-- ITS FALSE NEIGHBOUR: 'it returns false'. Refute it at one input. -/
def colorClipsWrong : ChangeSpec := { name := "colorClips", fn := fun _ => fun
  | [d1, d2, d3] => { results := [.lit (.bool false)], args := [d1, d2, d3] }
  | _ => none }
def ColorClipsWrongFalsely : Prop := colorClipsRow.holds Try.pinned (OpenSpec.ofChange colorClipsWrong)

/-- 'waveletlaw11.ColorShifts': WHATEVER THE INPUT: true; the input reads as it did. -/
def colorShiftsSpec : ChangeSpec := { name := "colorShifts", fn := fun _ => fun
  | [d1, d2, d3] => { results := [.lit (.bool true)], args := [d1, d2, d3] }
  | _ => none }
def colorShiftsRow : OpenClaim := { program := "ytemkeohclmgefaa", sum := "a660dbc76c450e36b810fa277a542e45dbd1887758bee6d31d2a11ad7ce202f0", func := "wavelet/waveletlaw11.ColorShifts", spec := "colorShifts", unfollowed := true, recurses := true, apart := false }
def ColorShiftsSaid : Prop := colorShiftsRow.holds Try.pinned (OpenSpec.ofChange colorShiftsSpec)

/-- ITS FALSE NEIGHBOUR: 'it returns false'. Refute it at one input. -/
def colorShiftsWrong : ChangeSpec := { name := "colorShifts", fn := fun _ => fun
  | [d1, d2, d3] => { results := [.lit (.bool false)], args := [d1, d2, d3] }
  | _ => none }
def ColorShiftsWrongFalsely : Prop := colorShiftsRow.holds Try.pinned (OpenSpec.ofChange colorShiftsWrong)

/-- 'waveletlaw11.ColorBack': WHATEVER THE INPUT: true; the input reads as it did. -/
def colorBackSpec : ChangeSpec := { name := "colorBack", fn := fun _ => fun
  | [d1, d2, d3, d4, d5] => { results := [.lit (.bool true)], args := [d1, d2, d3, d4, d5] }
  | _ => none }
def colorBackRow : OpenClaim := { program := "ytemkeohclmgefaa", sum := "a660dbc76c450e36b810fa277a542e45dbd1887758bee6d31d2a11ad7ce202f0", func := "wavelet/waveletlaw11.ColorBack", spec := "colorBack", unfollowed := true, recurses := true, apart := false }
def ColorBackSaid : Prop := colorBackRow.holds Try.pinned (OpenSpec.ofChange colorBackSpec)

/-- ITS FALSE NEIGHBOUR: 'it returns false'. Refute it at one input. -/
def colorBackWrong : ChangeSpec := { name := "colorBack", fn := fun _ => fun
  | [d1, d2, d3, d4, d5] => { results := [.lit (.bool false)], args := [d1, d2, d3, d4, d5] }
  | _ => none }
def ColorBackWrongFalsely : Prop := colorBackRow.holds Try.pinned (OpenSpec.ofChange colorBackWrong)

/- THE SECOND FORM. 'bulk': how many values and letters a reading holds, each counted each time it is reached (what is shared counts as often as it is met; a slice's spare places count too). A statement '..UptoSaid' is the law's where the arguments, and the package variables that the reading takes, are together of bulk at most 1048576: NARROWER than '..Said'. Prove '..Said' where nothing that the law and all that it calls make is longer than what came in: it says more and counts as full. Else prove '..UptoSaid'. A law counts once. -/
mutual
def uptoBulk {H : Type} : DataW H → Nat
  | .lit (.string bytes) => bytes.length + 1
  | .lit _ => 1
  | .nil => 1
  | .ptr d => uptoBulk d + 1
  | .slice elems spare => uptoBulkAll elems + uptoBulkAll spare + 1
  | .agg parts => uptoBulkAll parts + 1
  | .iface _ d => uptoBulk d + 1
  | .map entries => uptoBulkEntries entries + 1
  | .held _ => 1
def uptoBulkAll {H : Type} : List (DataW H) → Nat
  | [] => 0
  | d :: r => uptoBulk d + uptoBulkAll r
def uptoBulkEntries {H : Type} : List (Lit × DataW H) → Nat
  | [] => 0
  | x :: r => uptoBulkEntry x + uptoBulkEntries r
def uptoBulkEntry {H : Type} : Lit × DataW H → Nat
  | (.string bytes, d) => bytes.length + uptoBulk d + 1
  | (_, d) => uptoBulk d + 1
 end
def uptoSmall : (H : Type) → List (DataW H) → Bool := fun _ ds => decide (uptoBulkAll ds ≤ 1048576)
def OpenSpec.upto (s : _root_.Go.ChangeSpec) : _root_.Go.OpenSpec := { _root_.Go.OpenSpec.ofChange s with cond := some uptoSmall }

/-- 'waveletlaw11.ColorGray', WHERE WHAT IT READS IS OF BULK AT MOST 1048576: true; the input reads as it did. -/
def colorGrayUptoRow : OpenClaim := { program := "ytemkeohclmgefaa", sum := "a660dbc76c450e36b810fa277a542e45dbd1887758bee6d31d2a11ad7ce202f0", func := "wavelet/waveletlaw11.ColorGray", spec := "colorGray", unfollowed := true, recurses := true, apart := false, narrowed := true }
def ColorGrayUptoSaid : Prop := colorGrayUptoRow.holds Try.pinned (OpenSpec.upto colorGraySpec)

/-- 'waveletlaw11.ColorPlaces', WHERE WHAT IT READS IS OF BULK AT MOST 1048576: true; the input reads as it did. -/
def colorPlacesUptoRow : OpenClaim := { program := "ytemkeohclmgefaa", sum := "a660dbc76c450e36b810fa277a542e45dbd1887758bee6d31d2a11ad7ce202f0", func := "wavelet/waveletlaw11.ColorPlaces", spec := "colorPlaces", unfollowed := true, recurses := true, apart := false, narrowed := true }
def ColorPlacesUptoSaid : Prop := colorPlacesUptoRow.holds Try.pinned (OpenSpec.upto colorPlacesSpec)

/-- 'waveletlaw11.ColorSwaps', WHERE WHAT IT READS IS OF BULK AT MOST 1048576: true; the input reads as it did. -/
def colorSwapsUptoRow : OpenClaim := { program := "ytemkeohclmgefaa", sum := "a660dbc76c450e36b810fa277a542e45dbd1887758bee6d31d2a11ad7ce202f0", func := "wavelet/waveletlaw11.ColorSwaps", spec := "colorSwaps", unfollowed := true, recurses := true, apart := false, narrowed := true }
def ColorSwapsUptoSaid : Prop := colorSwapsUptoRow.holds Try.pinned (OpenSpec.upto colorSwapsSpec)

/-- 'waveletlaw11.ColorTurns', WHERE WHAT IT READS IS OF BULK AT MOST 1048576: true; the input reads as it did. -/
def colorTurnsUptoRow : OpenClaim := { program := "ytemkeohclmgefaa", sum := "a660dbc76c450e36b810fa277a542e45dbd1887758bee6d31d2a11ad7ce202f0", func := "wavelet/waveletlaw11.ColorTurns", spec := "colorTurns", unfollowed := true, recurses := true, apart := false, narrowed := true }
def ColorTurnsUptoSaid : Prop := colorTurnsUptoRow.holds Try.pinned (OpenSpec.upto colorTurnsSpec)

/-- 'waveletlaw11.ColorBounds', WHERE WHAT IT READS IS OF BULK AT MOST 1048576: true; the input reads as it did. -/
def colorBoundsUptoRow : OpenClaim := { program := "ytemkeohclmgefaa", sum := "a660dbc76c450e36b810fa277a542e45dbd1887758bee6d31d2a11ad7ce202f0", func := "wavelet/waveletlaw11.ColorBounds", spec := "colorBounds", unfollowed := true, recurses := true, apart := false, narrowed := true }
def ColorBoundsUptoSaid : Prop := colorBoundsUptoRow.holds Try.pinned (OpenSpec.upto colorBoundsSpec)

/-- 'waveletlaw11.ColorClips', WHERE WHAT IT READS IS OF BULK AT MOST 1048576: true; the input reads as it did. -/
def colorClipsUptoRow : OpenClaim := { program := "ytemkeohclmgefaa", sum := "a660dbc76c450e36b810fa277a542e45dbd1887758bee6d31d2a11ad7ce202f0", func := "wavelet/waveletlaw11.ColorClips", spec := "colorClips", unfollowed := true, recurses := true, apart := false, narrowed := true }
def ColorClipsUptoSaid : Prop := colorClipsUptoRow.holds Try.pinned (OpenSpec.upto colorClipsSpec)

/-- 'waveletlaw11.ColorShifts', WHERE WHAT IT READS IS OF BULK AT MOST 1048576: true; the input reads as it did. -/
def colorShiftsUptoRow : OpenClaim := { program := "ytemkeohclmgefaa", sum := "a660dbc76c450e36b810fa277a542e45dbd1887758bee6d31d2a11ad7ce202f0", func := "wavelet/waveletlaw11.ColorShifts", spec := "colorShifts", unfollowed := true, recurses := true, apart := false, narrowed := true }
def ColorShiftsUptoSaid : Prop := colorShiftsUptoRow.holds Try.pinned (OpenSpec.upto colorShiftsSpec)

/-- 'waveletlaw11.ColorBack', WHERE WHAT IT READS IS OF BULK AT MOST 1048576: true; the input reads as it did. -/
def colorBackUptoRow : OpenClaim := { program := "ytemkeohclmgefaa", sum := "a660dbc76c450e36b810fa277a542e45dbd1887758bee6d31d2a11ad7ce202f0", func := "wavelet/waveletlaw11.ColorBack", spec := "colorBack", unfollowed := true, recurses := true, apart := false, narrowed := true }
def ColorBackUptoSaid : Prop := colorBackUptoRow.holds Try.pinned (OpenSpec.upto colorBackSpec)

end Rows
end Go.Proofs.Ytemkeohclmgefaa
