/-
  No cell of these rows narrows 'for every input' (looked for: loops, veiled, ifaces, maps, wideKeys, modest, calm, conditions, laid).
  DERIVED. THE GIVEN ROWS OF THIS SEAT. 8 by the template 'for every input the law returns true; each argument reads behind the call as it read before'; 0 by the template 'total and deterministic' (their statements: YtmcdhdofgaoadaaTotals.lean).
  GIVEN WITH THE SEED: the statements are not yours to turn. If you find one false, say at which input.
  Laid BY PROGRAM, IN A SANDBOX (cutbox-rows.mjs): the forced cells as the released guide's own fill.sh prints them over the translation 1b492788b312b4ee… (all of the seat's roots in one cut). By AI agents, Wed Nov 11 2026. No macro, syntax, notation, axiom, sorry.
-/
import Derived.Test.YtmcdhdofgaoadaaChecked
import GoSem.Claim
import GoSem.ClaimJoined
import GoSem.ClaimMapViews
import Derived.JoinedTies
import Derived.KernelRfl
namespace Go.Proofs.Ytmcdhdofgaoadaa
/- THE CELL 'sum', in the pinned program and in every row, IS THE sha256 OF THE DUMP (.gsa) THAT YtmcdhdofgaoadaaProg.lean LOADS. Nothing in Lean hashes anything: it is a label: what it is worth is what the hold of that sum in a sandbox is worth. -/
noncomputable def Try.pinned : Pinned := { name := "ytmcdhdofgaoadaa", sum := "1b492788b312b4ee6c1b1ab669832fd8479ae1518aa9fb2646a0d061fec4e019", checked := Try.checked }
namespace Rows
def none {H : Type} : Left H := { results := [], args := [] }

/-- 'waveletlaw10.DwtSplits': WHATEVER THE INPUT: true; the input reads as it did. -/
def dwtSplitsSpec : ChangeSpec := { name := "dwtSplits", fn := fun _ => fun
  | [d1, d2, d3] => { results := [.lit (.bool true)], args := [d1, d2, d3] }
  | _ => none }
def dwtSplitsRow : OpenClaim := { program := "ytmcdhdofgaoadaa", sum := "1b492788b312b4ee6c1b1ab669832fd8479ae1518aa9fb2646a0d061fec4e019", func := "wavelet/waveletlaw10.DwtSplits", spec := "dwtSplits", unfollowed := true, recurses := true, apart := false }
def DwtSplitsSaid : Prop := dwtSplitsRow.holds Try.pinned (OpenSpec.ofChange dwtSplitsSpec)

/-- ITS FALSE NEIGHBOUR: 'it returns false'. Refute it at one input. -/
def dwtSplitsWrong : ChangeSpec := { name := "dwtSplits", fn := fun _ => fun
  | [d1, d2, d3] => { results := [.lit (.bool false)], args := [d1, d2, d3] }
  | _ => none }
def DwtSplitsWrongFalsely : Prop := dwtSplitsRow.holds Try.pinned (OpenSpec.ofChange dwtSplitsWrong)

/-- 'waveletlaw10.DwtSizes': WHATEVER THE INPUT: true; the input reads as it did. -/
def dwtSizesSpec : ChangeSpec := { name := "dwtSizes", fn := fun _ => fun
  | [d1, d2] => { results := [.lit (.bool true)], args := [d1, d2] }
  | _ => none }
def dwtSizesRow : OpenClaim := { program := "ytmcdhdofgaoadaa", sum := "1b492788b312b4ee6c1b1ab669832fd8479ae1518aa9fb2646a0d061fec4e019", func := "wavelet/waveletlaw10.DwtSizes", spec := "dwtSizes", unfollowed := true, recurses := true, apart := false }
def DwtSizesSaid : Prop := dwtSizesRow.holds Try.pinned (OpenSpec.ofChange dwtSizesSpec)

/-- ITS FALSE NEIGHBOUR: 'it returns false'. Refute it at one input. -/
def dwtSizesWrong : ChangeSpec := { name := "dwtSizes", fn := fun _ => fun
  | [d1, d2] => { results := [.lit (.bool false)], args := [d1, d2] }
  | _ => none }
def DwtSizesWrongFalsely : Prop := dwtSizesRow.holds Try.pinned (OpenSpec.ofChange dwtSizesWrong)

/-- 'waveletlaw10.DwtFlat': WHATEVER THE INPUT: true; the input reads as it did. -/
def dwtFlatSpec : ChangeSpec := { name := "dwtFlat", fn := fun _ => fun
  | [d1, d2, d3, d4] => { results := [.lit (.bool true)], args := [d1, d2, d3, d4] }
  | _ => none }
def dwtFlatRow : OpenClaim := { program := "ytmcdhdofgaoadaa", sum := "1b492788b312b4ee6c1b1ab669832fd8479ae1518aa9fb2646a0d061fec4e019", func := "wavelet/waveletlaw10.DwtFlat", spec := "dwtFlat", unfollowed := true, recurses := true, apart := false }
def DwtFlatSaid : Prop := dwtFlatRow.holds Try.pinned (OpenSpec.ofChange dwtFlatSpec)

/-- ITS FALSE NEIGHBOUR: 'it returns false'. Refute it at one input. -/
def dwtFlatWrong : ChangeSpec := { name := "dwtFlat", fn := fun _ => fun
  | [d1, d2, d3, d4] => { results := [.lit (.bool false)], args := [d1, d2, d3, d4] }
  | _ => none }
def DwtFlatWrongFalsely : Prop := dwtFlatRow.holds Try.pinned (OpenSpec.ofChange dwtFlatWrong)

/-- 'waveletlaw10.DwtRows': WHATEVER THE INPUT: true; the input reads as it did. -/
def dwtRowsSpec : ChangeSpec := { name := "dwtRows", fn := fun _ => fun
  | [d1, d2, d3] => { results := [.lit (.bool true)], args := [d1, d2, d3] }
  | _ => none }
def dwtRowsRow : OpenClaim := { program := "ytmcdhdofgaoadaa", sum := "1b492788b312b4ee6c1b1ab669832fd8479ae1518aa9fb2646a0d061fec4e019", func := "wavelet/waveletlaw10.DwtRows", spec := "dwtRows", unfollowed := true, recurses := true, apart := false }
def DwtRowsSaid : Prop := dwtRowsRow.holds Try.pinned (OpenSpec.ofChange dwtRowsSpec)

/-- ITS FALSE NEIGHBOUR: 'it returns false'. Refute it at one input. -/
def dwtRowsWrong : ChangeSpec := { name := "dwtRows", fn := fun _ => fun
  | [d1, d2, d3] => { results := [.lit (.bool false)], args := [d1, d2, d3] }
  | _ => none }
def DwtRowsWrongFalsely : Prop := dwtRowsRow.holds Try.pinned (OpenSpec.ofChange dwtRowsWrong)

/-- 'waveletlaw10.DwtTwice': WHATEVER THE INPUT: true; the input reads as it did. -/
def dwtTwiceSpec : ChangeSpec := { name := "dwtTwice", fn := fun _ => fun
  | [d1, d2] => { results := [.lit (.bool true)], args := [d1, d2] }
  | _ => none }
def dwtTwiceRow : OpenClaim := { program := "ytmcdhdofgaoadaa", sum := "1b492788b312b4ee6c1b1ab669832fd8479ae1518aa9fb2646a0d061fec4e019", func := "wavelet/waveletlaw10.DwtTwice", spec := "dwtTwice", unfollowed := true, recurses := true, apart := false }
def DwtTwiceSaid : Prop := dwtTwiceRow.holds Try.pinned (OpenSpec.ofChange dwtTwiceSpec)

/-- ITS FALSE NEIGHBOUR: 'it returns false'. Refute it at one input. -/
def dwtTwiceWrong : ChangeSpec := { name := "dwtTwice", fn := fun _ => fun
  | [d1, d2] => { results := [.lit (.bool false)], args := [d1, d2] }
  | _ => none }
def DwtTwiceWrongFalsely : Prop := dwtTwiceRow.holds Try.pinned (OpenSpec.ofChange dwtTwiceWrong)

/-- 'waveletlaw10.DwtBack': WHATEVER THE INPUT: true; the input reads as it did. -/
def dwtBackSpec : ChangeSpec := { name := "dwtBack", fn := fun _ => fun
  | [d1, d2, d3, d4] => { results := [.lit (.bool true)], args := [d1, d2, d3, d4] }
  | _ => none }
def dwtBackRow : OpenClaim := { program := "ytmcdhdofgaoadaa", sum := "1b492788b312b4ee6c1b1ab669832fd8479ae1518aa9fb2646a0d061fec4e019", func := "wavelet/waveletlaw10.DwtBack", spec := "dwtBack", unfollowed := true, recurses := true, apart := false }
def DwtBackSaid : Prop := dwtBackRow.holds Try.pinned (OpenSpec.ofChange dwtBackSpec)

/-- ITS FALSE NEIGHBOUR: 'it returns false'. Refute it at one input. -/
def dwtBackWrong : ChangeSpec := { name := "dwtBack", fn := fun _ => fun
  | [d1, d2, d3, d4] => { results := [.lit (.bool false)], args := [d1, d2, d3, d4] }
  | _ => none }
def DwtBackWrongFalsely : Prop := dwtBackRow.holds Try.pinned (OpenSpec.ofChange dwtBackWrong)

/-- 'waveletlaw10.DwtMoves': WHATEVER THE INPUT: true; the input reads as it did. -/
def dwtMovesSpec : ChangeSpec := { name := "dwtMoves", fn := fun _ => fun
  | [d1, d2, d3, d4, d5] => { results := [.lit (.bool true)], args := [d1, d2, d3, d4, d5] }
  | _ => none }
def dwtMovesRow : OpenClaim := { program := "ytmcdhdofgaoadaa", sum := "1b492788b312b4ee6c1b1ab669832fd8479ae1518aa9fb2646a0d061fec4e019", func := "wavelet/waveletlaw10.DwtMoves", spec := "dwtMoves", unfollowed := true, recurses := true, apart := false }
def DwtMovesSaid : Prop := dwtMovesRow.holds Try.pinned (OpenSpec.ofChange dwtMovesSpec)

/-- ITS FALSE NEIGHBOUR: 'it returns false'. Refute it at one input. -/
def dwtMovesWrong : ChangeSpec := { name := "dwtMoves", fn := fun _ => fun
  | [d1, d2, d3, d4, d5] => { results := [.lit (.bool false)], args := [d1, d2, d3, d4, d5] }
  | _ => none }
def DwtMovesWrongFalsely : Prop := dwtMovesRow.holds Try.pinned (OpenSpec.ofChange dwtMovesWrong)

/-- 'waveletlaw10.DwtEmpty': WHATEVER THE INPUT: true; the input reads as it did. -/
def dwtEmptySpec : ChangeSpec := { name := "dwtEmpty", fn := fun _ => fun
  | [d1, d2, d3, d4] => { results := [.lit (.bool true)], args := [d1, d2, d3, d4] }
  | _ => none }
def dwtEmptyRow : OpenClaim := { program := "ytmcdhdofgaoadaa", sum := "1b492788b312b4ee6c1b1ab669832fd8479ae1518aa9fb2646a0d061fec4e019", func := "wavelet/waveletlaw10.DwtEmpty", spec := "dwtEmpty", unfollowed := true, recurses := true, apart := false }
def DwtEmptySaid : Prop := dwtEmptyRow.holds Try.pinned (OpenSpec.ofChange dwtEmptySpec)

/-- ITS FALSE NEIGHBOUR: 'it returns false'. Refute it at one input. -/
def dwtEmptyWrong : ChangeSpec := { name := "dwtEmpty", fn := fun _ => fun
  | [d1, d2, d3, d4] => { results := [.lit (.bool false)], args := [d1, d2, d3, d4] }
  | _ => none }
def DwtEmptyWrongFalsely : Prop := dwtEmptyRow.holds Try.pinned (OpenSpec.ofChange dwtEmptyWrong)

/- THE SECOND FORM. 'bulk': how many values and letters a reading holds, each counted each time it is reached (what is shared counts as often as it is met; a slice's spare places count too). A statement '..UptoSaid' is the law's where the arguments, and the package variables that the reading takes, are together of bulk at most 1048576: NARROWER than '..Said'. Prove '..Said' where nothing that the law and all that it calls make is longer than what came in: it says more and counts as full. Else prove '..UptoSaid'. A law counts once. -/
mutual
def uptoBulk {H : Type} : DataW H → Nat
  | .lit (.string bytes) => bytes.length + 1
  | .lit _ => 1
  | .nil => 1
  | .ptr d => uptoBulk d + 1
  | .slice elems spare => uptoBulkAll elems + uptoBulkAll spare + 1
  | .agg parts => uptoBulkAll parts + 1
  | .iface _ d => uptoBulk d + 1
  | .map entries => uptoBulkEntries entries + 1
  | .held _ => 1
def uptoBulkAll {H : Type} : List (DataW H) → Nat
  | [] => 0
  | d :: r => uptoBulk d + uptoBulkAll r
def uptoBulkEntries {H : Type} : List (Lit × DataW H) → Nat
  | [] => 0
  | x :: r => uptoBulkEntry x + uptoBulkEntries r
def uptoBulkEntry {H : Type} : Lit × DataW H → Nat
  | (.string bytes, d) => bytes.length + uptoBulk d + 1
  | (_, d) => uptoBulk d + 1
 end
def uptoSmall : (H : Type) → List (DataW H) → Bool := fun _ ds => decide (uptoBulkAll ds ≤ 1048576)
def OpenSpec.upto (s : _root_.Go.ChangeSpec) : _root_.Go.OpenSpec := { _root_.Go.OpenSpec.ofChange s with cond := some uptoSmall }

/-- 'waveletlaw10.DwtSplits', WHERE WHAT IT READS IS OF BULK AT MOST 1048576: true; the input reads as it did. -/
def dwtSplitsUptoRow : OpenClaim := { program := "ytmcdhdofgaoadaa", sum := "1b492788b312b4ee6c1b1ab669832fd8479ae1518aa9fb2646a0d061fec4e019", func := "wavelet/waveletlaw10.DwtSplits", spec := "dwtSplits", unfollowed := true, recurses := true, apart := false, narrowed := true }
def DwtSplitsUptoSaid : Prop := dwtSplitsUptoRow.holds Try.pinned (OpenSpec.upto dwtSplitsSpec)

/-- 'waveletlaw10.DwtSizes', WHERE WHAT IT READS IS OF BULK AT MOST 1048576: true; the input reads as it did. -/
def dwtSizesUptoRow : OpenClaim := { program := "ytmcdhdofgaoadaa", sum := "1b492788b312b4ee6c1b1ab669832fd8479ae1518aa9fb2646a0d061fec4e019", func := "wavelet/waveletlaw10.DwtSizes", spec := "dwtSizes", unfollowed := true, recurses := true, apart := false, narrowed := true }
def DwtSizesUptoSaid : Prop := dwtSizesUptoRow.holds Try.pinned (OpenSpec.upto dwtSizesSpec)

/-- 'waveletlaw10.DwtFlat', WHERE WHAT IT READS IS OF BULK AT MOST 1048576: true; the input reads as it did. -/
def dwtFlatUptoRow : OpenClaim := { program := "ytmcdhdofgaoadaa", sum := "1b492788b312b4ee6c1b1ab669832fd8479ae1518aa9fb2646a0d061fec4e019", func := "wavelet/waveletlaw10.DwtFlat", spec := "dwtFlat", unfollowed := true, recurses := true, apart := false, narrowed := true }
def DwtFlatUptoSaid : Prop := dwtFlatUptoRow.holds Try.pinned (OpenSpec.upto dwtFlatSpec)

/-- 'waveletlaw10.DwtRows', WHERE WHAT IT READS IS OF BULK AT MOST 1048576: true; the input reads as it did. -/
def dwtRowsUptoRow : OpenClaim := { program := "ytmcdhdofgaoadaa", sum := "1b492788b312b4ee6c1b1ab669832fd8479ae1518aa9fb2646a0d061fec4e019", func := "wavelet/waveletlaw10.DwtRows", spec := "dwtRows", unfollowed := true, recurses := true, apart := false, narrowed := true }
def DwtRowsUptoSaid : Prop := dwtRowsUptoRow.holds Try.pinned (OpenSpec.upto dwtRowsSpec)

/-- 'waveletlaw10.DwtTwice', WHERE WHAT IT READS IS OF BULK AT MOST 1048576: true; the input reads as it did. -/
def dwtTwiceUptoRow : OpenClaim := { program := "ytmcdhdofgaoadaa", sum := "1b492788b312b4ee6c1b1ab669832fd8479ae1518aa9fb2646a0d061fec4e019", func := "wavelet/waveletlaw10.DwtTwice", spec := "dwtTwice", unfollowed := true, recurses := true, apart := false, narrowed := true }
def DwtTwiceUptoSaid : Prop := dwtTwiceUptoRow.holds Try.pinned (OpenSpec.upto dwtTwiceSpec)

/-- 'waveletlaw10.DwtBack', WHERE WHAT IT READS IS OF BULK AT MOST 1048576: true; the input reads as it did. -/
def dwtBackUptoRow : OpenClaim := { program := "ytmcdhdofgaoadaa", sum := "1b492788b312b4ee6c1b1ab669832fd8479ae1518aa9fb2646a0d061fec4e019", func := "wavelet/waveletlaw10.DwtBack", spec := "dwtBack", unfollowed := true, recurses := true, apart := false, narrowed := true }
def DwtBackUptoSaid : Prop := dwtBackUptoRow.holds Try.pinned (OpenSpec.upto dwtBackSpec)

/-- 'waveletlaw10.DwtMoves', WHERE WHAT IT READS IS OF BULK AT MOST 1048576: true; the input reads as it did. -/
def dwtMovesUptoRow : OpenClaim := { program := "ytmcdhdofgaoadaa", sum := "1b492788b312b4ee6c1b1ab669832fd8479ae1518aa9fb2646a0d061fec4e019", func := "wavelet/waveletlaw10.DwtMoves", spec := "dwtMoves", unfollowed := true, recurses := true, apart := false, narrowed := true }
def DwtMovesUptoSaid : Prop := dwtMovesUptoRow.holds Try.pinned (OpenSpec.upto dwtMovesSpec)

/-- 'waveletlaw10.DwtEmpty', WHERE WHAT IT READS IS OF BULK AT MOST 1048576: true; the input reads as it did. -/
def dwtEmptyUptoRow : OpenClaim := { program := "ytmcdhdofgaoadaa", sum := "1b492788b312b4ee6c1b1ab669832fd8479ae1518aa9fb2646a0d061fec4e019", func := "wavelet/waveletlaw10.DwtEmpty", spec := "dwtEmpty", unfollowed := true, recurses := true, apart := false, narrowed := true }
def DwtEmptyUptoSaid : Prop := dwtEmptyUptoRow.holds Try.pinned (OpenSpec.upto dwtEmptySpec)

end Rows
end Go.Proofs.Ytmcdhdofgaoadaa
