/-
  No cell of these rows narrows 'for every input' (looked for: loops, veiled, ifaces, maps, wideKeys, modest, calm, conditions, laid).
  DERIVED. THE GIVEN ROWS OF THIS SEAT. 9 by the template 'for every input the law returns true; each argument reads behind the call as it read before'; 0 by the template 'total and deterministic' (their statements: YtgaojpobdgopbaaTotals.lean).
  GIVEN WITH THE SEED: the statements are not yours to turn. If you find one false, say at which input.
  Laid BY PROGRAM, IN A SANDBOX (cutbox-rows.mjs): the forced cells as the released guide's own fill.sh prints them over the translation f78d5be9537fdfbe… (all of the seat's roots in one cut). By AI agents, Wed Nov 11 2026. No macro, syntax, notation, axiom, sorry.
-/
import Derived.Test.YtgaojpobdgopbaaChecked
import GoSem.Claim
import GoSem.ClaimJoined
import GoSem.ClaimMapViews
import Derived.JoinedTies
import Derived.KernelRfl
namespace Go.Proofs.Ytgaojpobdgopbaa
/- THE CELL 'sum', in the pinned program and in every row, IS THE sha256 OF THE DUMP (.gsa) THAT YtgaojpobdgopbaaProg.lean LOADS. Nothing in Lean hashes anything: it is a label: what it is worth is what the hold of that sum in a sandbox is worth. -/
noncomputable def Try.pinned : Pinned := { name := "ytgaojpobdgopbaa", sum := "f78d5be9537fdfbe2923008b8ab6256406d949f5431e47900dff63bdcb59cee5", checked := Try.checked }
namespace Rows
def none {H : Type} : Left H := { results := [], args := [] }

/-- 'waveletlaw9.LiftFlat': WHATEVER THE INPUT: true; the input reads as it did. -/
def liftFlatSpec : ChangeSpec := { name := "liftFlat", fn := fun _ => fun
  | [d1, d2, d3] => { results := [.lit (.bool true)], args := [d1, d2, d3] }
  | _ => none }
def liftFlatRow : OpenClaim := { program := "ytgaojpobdgopbaa", sum := "f78d5be9537fdfbe2923008b8ab6256406d949f5431e47900dff63bdcb59cee5", func := "wavelet/waveletlaw9.LiftFlat", spec := "liftFlat", unfollowed := true, recurses := true, apart := false }
def LiftFlatSaid : Prop := liftFlatRow.holds Try.pinned (OpenSpec.ofChange liftFlatSpec)

/-- ITS FALSE NEIGHBOUR: 'it returns false'. Refute it at one input. -/
def liftFlatWrong : ChangeSpec := { name := "liftFlat", fn := fun _ => fun
  | [d1, d2, d3] => { results := [.lit (.bool false)], args := [d1, d2, d3] }
  | _ => none }
def LiftFlatWrongFalsely : Prop := liftFlatRow.holds Try.pinned (OpenSpec.ofChange liftFlatWrong)

/-- 'waveletlaw9.LiftMirrors': WHATEVER THE INPUT: true; the input reads as it did. -/
def liftMirrorsSpec : ChangeSpec := { name := "liftMirrors", fn := fun _ => fun
  | [d1, d2] => { results := [.lit (.bool true)], args := [d1, d2] }
  | _ => none }
def liftMirrorsRow : OpenClaim := { program := "ytgaojpobdgopbaa", sum := "f78d5be9537fdfbe2923008b8ab6256406d949f5431e47900dff63bdcb59cee5", func := "wavelet/waveletlaw9.LiftMirrors", spec := "liftMirrors", unfollowed := true, recurses := true, apart := false }
def LiftMirrorsSaid : Prop := liftMirrorsRow.holds Try.pinned (OpenSpec.ofChange liftMirrorsSpec)

/-- ITS FALSE NEIGHBOUR: 'it returns false'. Refute it at one input. -/
def liftMirrorsWrong : ChangeSpec := { name := "liftMirrors", fn := fun _ => fun
  | [d1, d2] => { results := [.lit (.bool false)], args := [d1, d2] }
  | _ => none }
def LiftMirrorsWrongFalsely : Prop := liftMirrorsRow.holds Try.pinned (OpenSpec.ofChange liftMirrorsWrong)

/-- 'waveletlaw9.LiftBounds': WHATEVER THE INPUT: true; the input reads as it did. -/
def liftBoundsSpec : ChangeSpec := { name := "liftBounds", fn := fun _ => fun
  | [d1, d2, d3] => { results := [.lit (.bool true)], args := [d1, d2, d3] }
  | _ => none }
def liftBoundsRow : OpenClaim := { program := "ytgaojpobdgopbaa", sum := "f78d5be9537fdfbe2923008b8ab6256406d949f5431e47900dff63bdcb59cee5", func := "wavelet/waveletlaw9.LiftBounds", spec := "liftBounds", unfollowed := true, recurses := true, apart := false }
def LiftBoundsSaid : Prop := liftBoundsRow.holds Try.pinned (OpenSpec.ofChange liftBoundsSpec)

/-- ITS FALSE NEIGHBOUR: 'it returns false'. Refute it at one input. -/
def liftBoundsWrong : ChangeSpec := { name := "liftBounds", fn := fun _ => fun
  | [d1, d2, d3] => { results := [.lit (.bool false)], args := [d1, d2, d3] }
  | _ => none }
def LiftBoundsWrongFalsely : Prop := liftBoundsRow.holds Try.pinned (OpenSpec.ofChange liftBoundsWrong)

/-- 'waveletlaw9.LiftSums': WHATEVER THE INPUT: true; the input reads as it did. -/
def liftSumsSpec : ChangeSpec := { name := "liftSums", fn := fun _ => fun
  | [d1, d2, d3] => { results := [.lit (.bool true)], args := [d1, d2, d3] }
  | _ => none }
def liftSumsRow : OpenClaim := { program := "ytgaojpobdgopbaa", sum := "f78d5be9537fdfbe2923008b8ab6256406d949f5431e47900dff63bdcb59cee5", func := "wavelet/waveletlaw9.LiftSums", spec := "liftSums", unfollowed := true, recurses := true, apart := false }
def LiftSumsSaid : Prop := liftSumsRow.holds Try.pinned (OpenSpec.ofChange liftSumsSpec)

/-- ITS FALSE NEIGHBOUR: 'it returns false'. Refute it at one input. -/
def liftSumsWrong : ChangeSpec := { name := "liftSums", fn := fun _ => fun
  | [d1, d2, d3] => { results := [.lit (.bool false)], args := [d1, d2, d3] }
  | _ => none }
def LiftSumsWrongFalsely : Prop := liftSumsRow.holds Try.pinned (OpenSpec.ofChange liftSumsWrong)

/-- 'waveletlaw9.LiftLine': WHATEVER THE INPUT: true; the input reads as it did. -/
def liftLineSpec : ChangeSpec := { name := "liftLine", fn := fun _ => fun
  | [d1, d2, d3] => { results := [.lit (.bool true)], args := [d1, d2, d3] }
  | _ => none }
def liftLineRow : OpenClaim := { program := "ytgaojpobdgopbaa", sum := "f78d5be9537fdfbe2923008b8ab6256406d949f5431e47900dff63bdcb59cee5", func := "wavelet/waveletlaw9.LiftLine", spec := "liftLine", unfollowed := true, recurses := true, apart := false }
def LiftLineSaid : Prop := liftLineRow.holds Try.pinned (OpenSpec.ofChange liftLineSpec)

/-- ITS FALSE NEIGHBOUR: 'it returns false'. Refute it at one input. -/
def liftLineWrong : ChangeSpec := { name := "liftLine", fn := fun _ => fun
  | [d1, d2, d3] => { results := [.lit (.bool false)], args := [d1, d2, d3] }
  | _ => none }
def LiftLineWrongFalsely : Prop := liftLineRow.holds Try.pinned (OpenSpec.ofChange liftLineWrong)

/-- 'waveletlaw9.LiftTwo': WHATEVER THE INPUT: true; the input reads as it did. -/
def liftTwoSpec : ChangeSpec := { name := "liftTwo", fn := fun _ => fun
  | [d1, d2, d3] => { results := [.lit (.bool true)], args := [d1, d2, d3] }
  | _ => none }
def liftTwoRow : OpenClaim := { program := "ytgaojpobdgopbaa", sum := "f78d5be9537fdfbe2923008b8ab6256406d949f5431e47900dff63bdcb59cee5", func := "wavelet/waveletlaw9.LiftTwo", spec := "liftTwo", unfollowed := true, recurses := true, apart := false }
def LiftTwoSaid : Prop := liftTwoRow.holds Try.pinned (OpenSpec.ofChange liftTwoSpec)

/-- ITS FALSE NEIGHBOUR: 'it returns false'. Refute it at one input. -/
def liftTwoWrong : ChangeSpec := { name := "liftTwo", fn := fun _ => fun
  | [d1, d2, d3] => { results := [.lit (.bool false)], args := [d1, d2, d3] }
  | _ => none }
def LiftTwoWrongFalsely : Prop := liftTwoRow.holds Try.pinned (OpenSpec.ofChange liftTwoWrong)

/-- 'waveletlaw9.LiftBack': WHATEVER THE INPUT: true; the input reads as it did. -/
def liftBackSpec : ChangeSpec := { name := "liftBack", fn := fun _ => fun
  | [d1, d2] => { results := [.lit (.bool true)], args := [d1, d2] }
  | _ => none }
def liftBackRow : OpenClaim := { program := "ytgaojpobdgopbaa", sum := "f78d5be9537fdfbe2923008b8ab6256406d949f5431e47900dff63bdcb59cee5", func := "wavelet/waveletlaw9.LiftBack", spec := "liftBack", unfollowed := true, recurses := true, apart := false }
def LiftBackSaid : Prop := liftBackRow.holds Try.pinned (OpenSpec.ofChange liftBackSpec)

/-- ITS FALSE NEIGHBOUR: 'it returns false'. Refute it at one input. -/
def liftBackWrong : ChangeSpec := { name := "liftBack", fn := fun _ => fun
  | [d1, d2] => { results := [.lit (.bool false)], args := [d1, d2] }
  | _ => none }
def LiftBackWrongFalsely : Prop := liftBackRow.holds Try.pinned (OpenSpec.ofChange liftBackWrong)

/-- 'waveletlaw9.LiftShifts': WHATEVER THE INPUT: true; the input reads as it did. -/
def liftShiftsSpec : ChangeSpec := { name := "liftShifts", fn := fun _ => fun
  | [d1, d2, d3] => { results := [.lit (.bool true)], args := [d1, d2, d3] }
  | _ => none }
def liftShiftsRow : OpenClaim := { program := "ytgaojpobdgopbaa", sum := "f78d5be9537fdfbe2923008b8ab6256406d949f5431e47900dff63bdcb59cee5", func := "wavelet/waveletlaw9.LiftShifts", spec := "liftShifts", unfollowed := true, recurses := true, apart := false }
def LiftShiftsSaid : Prop := liftShiftsRow.holds Try.pinned (OpenSpec.ofChange liftShiftsSpec)

/-- ITS FALSE NEIGHBOUR: 'it returns false'. Refute it at one input. -/
def liftShiftsWrong : ChangeSpec := { name := "liftShifts", fn := fun _ => fun
  | [d1, d2, d3] => { results := [.lit (.bool false)], args := [d1, d2, d3] }
  | _ => none }
def LiftShiftsWrongFalsely : Prop := liftShiftsRow.holds Try.pinned (OpenSpec.ofChange liftShiftsWrong)

/-- 'waveletlaw9.LiftOne': WHATEVER THE INPUT: true; the input reads as it did. -/
def liftOneSpec : ChangeSpec := { name := "liftOne", fn := fun _ => fun
  | [d1, d2] => { results := [.lit (.bool true)], args := [d1, d2] }
  | _ => none }
def liftOneRow : OpenClaim := { program := "ytgaojpobdgopbaa", sum := "f78d5be9537fdfbe2923008b8ab6256406d949f5431e47900dff63bdcb59cee5", func := "wavelet/waveletlaw9.LiftOne", spec := "liftOne", unfollowed := true, recurses := true, apart := false }
def LiftOneSaid : Prop := liftOneRow.holds Try.pinned (OpenSpec.ofChange liftOneSpec)

/-- ITS FALSE NEIGHBOUR: 'it returns false'. Refute it at one input. -/
def liftOneWrong : ChangeSpec := { name := "liftOne", fn := fun _ => fun
  | [d1, d2] => { results := [.lit (.bool false)], args := [d1, d2] }
  | _ => none }
def LiftOneWrongFalsely : Prop := liftOneRow.holds Try.pinned (OpenSpec.ofChange liftOneWrong)

/- THE SECOND FORM. 'bulk': how many values and letters a reading holds, each counted each time it is reached (what is shared counts as often as it is met; a slice's spare places count too). A statement '..UptoSaid' is the law's where the arguments, and the package variables that the reading takes, are together of bulk at most 1048576: NARROWER than '..Said'. Prove '..Said' where nothing that the law and all that it calls make is longer than what came in: it says more and counts as full. Else prove '..UptoSaid'. A law counts once. -/
mutual
def uptoBulk {H : Type} : DataW H → Nat
  | .lit (.string bytes) => bytes.length + 1
  | .lit _ => 1
  | .nil => 1
  | .ptr d => uptoBulk d + 1
  | .slice elems spare => uptoBulkAll elems + uptoBulkAll spare + 1
  | .agg parts => uptoBulkAll parts + 1
  | .iface _ d => uptoBulk d + 1
  | .map entries => uptoBulkEntries entries + 1
  | .held _ => 1
def uptoBulkAll {H : Type} : List (DataW H) → Nat
  | [] => 0
  | d :: r => uptoBulk d + uptoBulkAll r
def uptoBulkEntries {H : Type} : List (Lit × DataW H) → Nat
  | [] => 0
  | x :: r => uptoBulkEntry x + uptoBulkEntries r
def uptoBulkEntry {H : Type} : Lit × DataW H → Nat
  | (.string bytes, d) => bytes.length + uptoBulk d + 1
  | (_, d) => uptoBulk d + 1
 end
def uptoSmall : (H : Type) → List (DataW H) → Bool := fun _ ds => decide (uptoBulkAll ds ≤ 1048576)
def OpenSpec.upto (s : _root_.Go.ChangeSpec) : _root_.Go.OpenSpec := { _root_.Go.OpenSpec.ofChange s with cond := some uptoSmall }

/-- 'waveletlaw9.LiftFlat', WHERE WHAT IT READS IS OF BULK AT MOST 1048576: true; the input reads as it did. -/
def liftFlatUptoRow : OpenClaim := { program := "ytgaojpobdgopbaa", sum := "f78d5be9537fdfbe2923008b8ab6256406d949f5431e47900dff63bdcb59cee5", func := "wavelet/waveletlaw9.LiftFlat", spec := "liftFlat", unfollowed := true, recurses := true, apart := false, narrowed := true }
def LiftFlatUptoSaid : Prop := liftFlatUptoRow.holds Try.pinned (OpenSpec.upto liftFlatSpec)

/-- 'waveletlaw9.LiftMirrors', WHERE WHAT IT READS IS OF BULK AT MOST 1048576: true; the input reads as it did. -/
def liftMirrorsUptoRow : OpenClaim := { program := "ytgaojpobdgopbaa", sum := "f78d5be9537fdfbe2923008b8ab6256406d949f5431e47900dff63bdcb59cee5", func := "wavelet/waveletlaw9.LiftMirrors", spec := "liftMirrors", unfollowed := true, recurses := true, apart := false, narrowed := true }
def LiftMirrorsUptoSaid : Prop := liftMirrorsUptoRow.holds Try.pinned (OpenSpec.upto liftMirrorsSpec)

/-- 'waveletlaw9.LiftBounds', WHERE WHAT IT READS IS OF BULK AT MOST 1048576: true; the input reads as it did. -/
def liftBoundsUptoRow : OpenClaim := { program := "ytgaojpobdgopbaa", sum := "f78d5be9537fdfbe2923008b8ab6256406d949f5431e47900dff63bdcb59cee5", func := "wavelet/waveletlaw9.LiftBounds", spec := "liftBounds", unfollowed := true, recurses := true, apart := false, narrowed := true }
def LiftBoundsUptoSaid : Prop := liftBoundsUptoRow.holds Try.pinned (OpenSpec.upto liftBoundsSpec)

/-- 'waveletlaw9.LiftSums', WHERE WHAT IT READS IS OF BULK AT MOST 1048576: true; the input reads as it did. -/
def liftSumsUptoRow : OpenClaim := { program := "ytgaojpobdgopbaa", sum := "f78d5be9537fdfbe2923008b8ab6256406d949f5431e47900dff63bdcb59cee5", func := "wavelet/waveletlaw9.LiftSums", spec := "liftSums", unfollowed := true, recurses := true, apart := false, narrowed := true }
def LiftSumsUptoSaid : Prop := liftSumsUptoRow.holds Try.pinned (OpenSpec.upto liftSumsSpec)

/-- 'waveletlaw9.LiftLine', WHERE WHAT IT READS IS OF BULK AT MOST 1048576: true; the input reads as it did. -/
def liftLineUptoRow : OpenClaim := { program := "ytgaojpobdgopbaa", sum := "f78d5be9537fdfbe2923008b8ab6256406d949f5431e47900dff63bdcb59cee5", func := "wavelet/waveletlaw9.LiftLine", spec := "liftLine", unfollowed := true, recurses := true, apart := false, narrowed := true }
def LiftLineUptoSaid : Prop := liftLineUptoRow.holds Try.pinned (OpenSpec.upto liftLineSpec)

/-- 'waveletlaw9.LiftTwo', WHERE WHAT IT READS IS OF BULK AT MOST 1048576: true; the input reads as it did. -/
def liftTwoUptoRow : OpenClaim := { program := "ytgaojpobdgopbaa", sum := "f78d5be9537fdfbe2923008b8ab6256406d949f5431e47900dff63bdcb59cee5", func := "wavelet/waveletlaw9.LiftTwo", spec := "liftTwo", unfollowed := true, recurses := true, apart := false, narrowed := true }
def LiftTwoUptoSaid : Prop := liftTwoUptoRow.holds Try.pinned (OpenSpec.upto liftTwoSpec)

/-- 'waveletlaw9.LiftBack', WHERE WHAT IT READS IS OF BULK AT MOST 1048576: true; the input reads as it did. -/
def liftBackUptoRow : OpenClaim := { program := "ytgaojpobdgopbaa", sum := "f78d5be9537fdfbe2923008b8ab6256406d949f5431e47900dff63bdcb59cee5", func := "wavelet/waveletlaw9.LiftBack", spec := "liftBack", unfollowed := true, recurses := true, apart := false, narrowed := true }
def LiftBackUptoSaid : Prop := liftBackUptoRow.holds Try.pinned (OpenSpec.upto liftBackSpec)

/-- 'waveletlaw9.LiftShifts', WHERE WHAT IT READS IS OF BULK AT MOST 1048576: true; the input reads as it did. -/
def liftShiftsUptoRow : OpenClaim := { program := "ytgaojpobdgopbaa", sum := "f78d5be9537fdfbe2923008b8ab6256406d949f5431e47900dff63bdcb59cee5", func := "wavelet/waveletlaw9.LiftShifts", spec := "liftShifts", unfollowed := true, recurses := true, apart := false, narrowed := true }
def LiftShiftsUptoSaid : Prop := liftShiftsUptoRow.holds Try.pinned (OpenSpec.upto liftShiftsSpec)

/-- 'waveletlaw9.LiftOne', WHERE WHAT IT READS IS OF BULK AT MOST 1048576: true; the input reads as it did. -/
def liftOneUptoRow : OpenClaim := { program := "ytgaojpobdgopbaa", sum := "f78d5be9537fdfbe2923008b8ab6256406d949f5431e47900dff63bdcb59cee5", func := "wavelet/waveletlaw9.LiftOne", spec := "liftOne", unfollowed := true, recurses := true, apart := false, narrowed := true }
def LiftOneUptoSaid : Prop := liftOneUptoRow.holds Try.pinned (OpenSpec.upto liftOneSpec)

end Rows
end Go.Proofs.Ytgaojpobdgopbaa
