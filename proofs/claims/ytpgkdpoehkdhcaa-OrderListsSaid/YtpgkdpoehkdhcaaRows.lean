/-
  No cell of these rows narrows 'for every input' (looked for: loops, veiled, ifaces, maps, wideKeys, modest, calm, conditions, laid).
  DERIVED. THE GIVEN ROWS OF THIS SEAT. 7 by the template 'for every input the law returns true; each argument reads behind the call as it read before'; 0 by the template 'total and deterministic' (their statements: YtpgkdpoehkdhcaaTotals.lean).
  GIVEN WITH THE SEED: the statements are not yours to turn. If you find one false, say at which input.
  Laid BY PROGRAM, IN A SANDBOX (cutbox-rows.mjs): the forced cells as the released guide's own fill.sh prints them over the translation 4d0f04fc269b2ca1… (all of the seat's roots in one cut). By AI agents, Wed Nov 11 2026. No macro, syntax, notation, axiom, sorry.
-/
import Derived.Test.YtpgkdpoehkdhcaaChecked
import GoSem.Claim
import GoSem.ClaimJoined
import GoSem.ClaimMapViews
import Derived.JoinedTies
import Derived.KernelRfl
namespace Go.Proofs.Ytpgkdpoehkdhcaa
/- THE CELL 'sum', in the pinned program and in every row, IS THE sha256 OF THE DUMP (.gsa) THAT YtpgkdpoehkdhcaaProg.lean LOADS. Nothing in Lean hashes anything: it is a label: what it is worth is what the hold of that sum in a sandbox is worth. -/
noncomputable def Try.pinned : Pinned := { name := "ytpgkdpoehkdhcaa", sum := "4d0f04fc269b2ca161286ca47db9e391010d5c686f567cfb1a9c0824aa61cc98", checked := Try.checked }
namespace Rows
def none {H : Type} : Left H := { results := [], args := [] }

/-- 'waveletlaw16.OrderLists': WHATEVER THE INPUT: true; the input reads as it did. -/
def orderListsSpec : ChangeSpec := { name := "orderLists", fn := fun _ => fun
  | [d] => { results := [.lit (.bool true)], args := [d] }
  | _ => none }
def orderListsRow : OpenClaim := { program := "ytpgkdpoehkdhcaa", sum := "4d0f04fc269b2ca161286ca47db9e391010d5c686f567cfb1a9c0824aa61cc98", func := "wavelet/waveletlaw16.OrderLists", spec := "orderLists", unfollowed := true, recurses := true, apart := false }
def OrderListsSaid : Prop := orderListsRow.holds Try.pinned (OpenSpec.ofChange orderListsSpec)

/-- ITS FALSE NEIGHBOUR: 'it returns false'. Refute it at one input. -/
def orderListsWrong : ChangeSpec := { name := "orderLists", fn := fun _ => fun
  | [d] => { results := [.lit (.bool false)], args := [d] }
  | _ => none }
def OrderListsWrongFalsely : Prop := orderListsRow.holds Try.pinned (OpenSpec.ofChange orderListsWrong)

/-- 'waveletlaw16.OrderOnce': WHATEVER THE INPUT: true; the input reads as it did. -/
def orderOnceSpec : ChangeSpec := { name := "orderOnce", fn := fun _ => fun
  | [d1, d2] => { results := [.lit (.bool true)], args := [d1, d2] }
  | _ => none }
def orderOnceRow : OpenClaim := { program := "ytpgkdpoehkdhcaa", sum := "4d0f04fc269b2ca161286ca47db9e391010d5c686f567cfb1a9c0824aa61cc98", func := "wavelet/waveletlaw16.OrderOnce", spec := "orderOnce", unfollowed := true, recurses := true, apart := false }
def OrderOnceSaid : Prop := orderOnceRow.holds Try.pinned (OpenSpec.ofChange orderOnceSpec)

/-- ITS FALSE NEIGHBOUR: 'it returns false'. Refute it at one input. -/
def orderOnceWrong : ChangeSpec := { name := "orderOnce", fn := fun _ => fun
  | [d1, d2] => { results := [.lit (.bool false)], args := [d1, d2] }
  | _ => none }
def OrderOnceWrongFalsely : Prop := orderOnceRow.holds Try.pinned (OpenSpec.ofChange orderOnceWrong)

/-- 'waveletlaw16.OrderFirst': WHATEVER THE INPUT: true; the input reads as it did. -/
def orderFirstSpec : ChangeSpec := { name := "orderFirst", fn := fun _ => fun
  | [d1, d2] => { results := [.lit (.bool true)], args := [d1, d2] }
  | _ => none }
def orderFirstRow : OpenClaim := { program := "ytpgkdpoehkdhcaa", sum := "4d0f04fc269b2ca161286ca47db9e391010d5c686f567cfb1a9c0824aa61cc98", func := "wavelet/waveletlaw16.OrderFirst", spec := "orderFirst", unfollowed := true, recurses := true, apart := false }
def OrderFirstSaid : Prop := orderFirstRow.holds Try.pinned (OpenSpec.ofChange orderFirstSpec)

/-- ITS FALSE NEIGHBOUR: 'it returns false'. Refute it at one input. -/
def orderFirstWrong : ChangeSpec := { name := "orderFirst", fn := fun _ => fun
  | [d1, d2] => { results := [.lit (.bool false)], args := [d1, d2] }
  | _ => none }
def OrderFirstWrongFalsely : Prop := orderFirstRow.holds Try.pinned (OpenSpec.ofChange orderFirstWrong)

/-- 'waveletlaw16.OrderSame': WHATEVER THE INPUT: true; the input reads as it did. -/
def orderSameSpec : ChangeSpec := { name := "orderSame", fn := fun _ => fun
  | [d1, d2, d3] => { results := [.lit (.bool true)], args := [d1, d2, d3] }
  | _ => none }
def orderSameRow : OpenClaim := { program := "ytpgkdpoehkdhcaa", sum := "4d0f04fc269b2ca161286ca47db9e391010d5c686f567cfb1a9c0824aa61cc98", func := "wavelet/waveletlaw16.OrderSame", spec := "orderSame", unfollowed := true, recurses := true, apart := false }
def OrderSameSaid : Prop := orderSameRow.holds Try.pinned (OpenSpec.ofChange orderSameSpec)

/-- ITS FALSE NEIGHBOUR: 'it returns false'. Refute it at one input. -/
def orderSameWrong : ChangeSpec := { name := "orderSame", fn := fun _ => fun
  | [d1, d2, d3] => { results := [.lit (.bool false)], args := [d1, d2, d3] }
  | _ => none }
def OrderSameWrongFalsely : Prop := orderSameRow.holds Try.pinned (OpenSpec.ofChange orderSameWrong)

/-- 'waveletlaw16.OrderCounts': WHATEVER THE INPUT: true; the input reads as it did. -/
def orderCountsSpec : ChangeSpec := { name := "orderCounts", fn := fun _ => fun
  | [d1, d2] => { results := [.lit (.bool true)], args := [d1, d2] }
  | _ => none }
def orderCountsRow : OpenClaim := { program := "ytpgkdpoehkdhcaa", sum := "4d0f04fc269b2ca161286ca47db9e391010d5c686f567cfb1a9c0824aa61cc98", func := "wavelet/waveletlaw16.OrderCounts", spec := "orderCounts", unfollowed := true, recurses := true, apart := false }
def OrderCountsSaid : Prop := orderCountsRow.holds Try.pinned (OpenSpec.ofChange orderCountsSpec)

/-- ITS FALSE NEIGHBOUR: 'it returns false'. Refute it at one input. -/
def orderCountsWrong : ChangeSpec := { name := "orderCounts", fn := fun _ => fun
  | [d1, d2] => { results := [.lit (.bool false)], args := [d1, d2] }
  | _ => none }
def OrderCountsWrongFalsely : Prop := orderCountsRow.holds Try.pinned (OpenSpec.ofChange orderCountsWrong)

/-- 'waveletlaw16.OrderSpots': WHATEVER THE INPUT: true; the input reads as it did. -/
def orderSpotsSpec : ChangeSpec := { name := "orderSpots", fn := fun _ => fun
  | [d1, d2] => { results := [.lit (.bool true)], args := [d1, d2] }
  | _ => none }
def orderSpotsRow : OpenClaim := { program := "ytpgkdpoehkdhcaa", sum := "4d0f04fc269b2ca161286ca47db9e391010d5c686f567cfb1a9c0824aa61cc98", func := "wavelet/waveletlaw16.OrderSpots", spec := "orderSpots", unfollowed := true, recurses := true, apart := false }
def OrderSpotsSaid : Prop := orderSpotsRow.holds Try.pinned (OpenSpec.ofChange orderSpotsSpec)

/-- ITS FALSE NEIGHBOUR: 'it returns false'. Refute it at one input. -/
def orderSpotsWrong : ChangeSpec := { name := "orderSpots", fn := fun _ => fun
  | [d1, d2] => { results := [.lit (.bool false)], args := [d1, d2] }
  | _ => none }
def OrderSpotsWrongFalsely : Prop := orderSpotsRow.holds Try.pinned (OpenSpec.ofChange orderSpotsWrong)

/-- 'waveletlaw16.OrderLayers': WHATEVER THE INPUT: true; the input reads as it did. -/
def orderLayersSpec : ChangeSpec := { name := "orderLayers", fn := fun _ => fun
  | [d1, d2, d3] => { results := [.lit (.bool true)], args := [d1, d2, d3] }
  | _ => none }
def orderLayersRow : OpenClaim := { program := "ytpgkdpoehkdhcaa", sum := "4d0f04fc269b2ca161286ca47db9e391010d5c686f567cfb1a9c0824aa61cc98", func := "wavelet/waveletlaw16.OrderLayers", spec := "orderLayers", unfollowed := true, recurses := true, apart := false }
def OrderLayersSaid : Prop := orderLayersRow.holds Try.pinned (OpenSpec.ofChange orderLayersSpec)

/-- ITS FALSE NEIGHBOUR: 'it returns false'. Refute it at one input. -/
def orderLayersWrong : ChangeSpec := { name := "orderLayers", fn := fun _ => fun
  | [d1, d2, d3] => { results := [.lit (.bool false)], args := [d1, d2, d3] }
  | _ => none }
def OrderLayersWrongFalsely : Prop := orderLayersRow.holds Try.pinned (OpenSpec.ofChange orderLayersWrong)

/- THE SECOND FORM. 'bulk': how many values and letters a reading holds, each counted each time it is reached (what is shared counts as often as it is met; a slice's spare places count too). A statement '..UptoSaid' is the law's where the arguments, and the package variables that the reading takes, are together of bulk at most 1048576: NARROWER than '..Said'. Prove '..Said' where nothing that the law and all that it calls make is longer than what came in: it says more and counts as full. Else prove '..UptoSaid'. A law counts once. -/
mutual
def uptoBulk {H : Type} : DataW H → Nat
  | .lit (.string bytes) => bytes.length + 1
  | .lit _ => 1
  | .nil => 1
  | .ptr d => uptoBulk d + 1
  | .slice elems spare => uptoBulkAll elems + uptoBulkAll spare + 1
  | .agg parts => uptoBulkAll parts + 1
  | .iface _ d => uptoBulk d + 1
  | .map entries => uptoBulkEntries entries + 1
  | .held _ => 1
def uptoBulkAll {H : Type} : List (DataW H) → Nat
  | [] => 0
  | d :: r => uptoBulk d + uptoBulkAll r
def uptoBulkEntries {H : Type} : List (Lit × DataW H) → Nat
  | [] => 0
  | x :: r => uptoBulkEntry x + uptoBulkEntries r
def uptoBulkEntry {H : Type} : Lit × DataW H → Nat
  | (.string bytes, d) => bytes.length + uptoBulk d + 1
  | (_, d) => uptoBulk d + 1
 end
def uptoSmall : (H : Type) → List (DataW H) → Bool := fun _ ds => decide (uptoBulkAll ds ≤ 1048576)
def OpenSpec.upto (s : _root_.Go.ChangeSpec) : _root_.Go.OpenSpec := { _root_.Go.OpenSpec.ofChange s with cond := some uptoSmall }

/-- 'waveletlaw16.OrderLists', WHERE WHAT IT READS IS OF BULK AT MOST 1048576: true; the input reads as it did. -/
def orderListsUptoRow : OpenClaim := { program := "ytpgkdpoehkdhcaa", sum := "4d0f04fc269b2ca161286ca47db9e391010d5c686f567cfb1a9c0824aa61cc98", func := "wavelet/waveletlaw16.OrderLists", spec := "orderLists", unfollowed := true, recurses := true, apart := false, narrowed := true }
def OrderListsUptoSaid : Prop := orderListsUptoRow.holds Try.pinned (OpenSpec.upto orderListsSpec)

/-- 'waveletlaw16.OrderOnce', WHERE WHAT IT READS IS OF BULK AT MOST 1048576: true; the input reads as it did. -/
def orderOnceUptoRow : OpenClaim := { program := "ytpgkdpoehkdhcaa", sum := "4d0f04fc269b2ca161286ca47db9e391010d5c686f567cfb1a9c0824aa61cc98", func := "wavelet/waveletlaw16.OrderOnce", spec := "orderOnce", unfollowed := true, recurses := true, apart := false, narrowed := true }
def OrderOnceUptoSaid : Prop := orderOnceUptoRow.holds Try.pinned (OpenSpec.upto orderOnceSpec)

/-- 'waveletlaw16.OrderFirst', WHERE WHAT IT READS IS OF BULK AT MOST 1048576: true; the input reads as it did. -/
def orderFirstUptoRow : OpenClaim := { program := "ytpgkdpoehkdhcaa", sum := "4d0f04fc269b2ca161286ca47db9e391010d5c686f567cfb1a9c0824aa61cc98", func := "wavelet/waveletlaw16.OrderFirst", spec := "orderFirst", unfollowed := true, recurses := true, apart := false, narrowed := true }
def OrderFirstUptoSaid : Prop := orderFirstUptoRow.holds Try.pinned (OpenSpec.upto orderFirstSpec)

/-- 'waveletlaw16.OrderSame', WHERE WHAT IT READS IS OF BULK AT MOST 1048576: true; the input reads as it did. -/
def orderSameUptoRow : OpenClaim := { program := "ytpgkdpoehkdhcaa", sum := "4d0f04fc269b2ca161286ca47db9e391010d5c686f567cfb1a9c0824aa61cc98", func := "wavelet/waveletlaw16.OrderSame", spec := "orderSame", unfollowed := true, recurses := true, apart := false, narrowed := true }
def OrderSameUptoSaid : Prop := orderSameUptoRow.holds Try.pinned (OpenSpec.upto orderSameSpec)

/-- 'waveletlaw16.OrderCounts', WHERE WHAT IT READS IS OF BULK AT MOST 1048576: true; the input reads as it did. -/
def orderCountsUptoRow : OpenClaim := { program := "ytpgkdpoehkdhcaa", sum := "4d0f04fc269b2ca161286ca47db9e391010d5c686f567cfb1a9c0824aa61cc98", func := "wavelet/waveletlaw16.OrderCounts", spec := "orderCounts", unfollowed := true, recurses := true, apart := false, narrowed := true }
def OrderCountsUptoSaid : Prop := orderCountsUptoRow.holds Try.pinned (OpenSpec.upto orderCountsSpec)

/-- 'waveletlaw16.OrderSpots', WHERE WHAT IT READS IS OF BULK AT MOST 1048576: true; the input reads as it did. -/
def orderSpotsUptoRow : OpenClaim := { program := "ytpgkdpoehkdhcaa", sum := "4d0f04fc269b2ca161286ca47db9e391010d5c686f567cfb1a9c0824aa61cc98", func := "wavelet/waveletlaw16.OrderSpots", spec := "orderSpots", unfollowed := true, recurses := true, apart := false, narrowed := true }
def OrderSpotsUptoSaid : Prop := orderSpotsUptoRow.holds Try.pinned (OpenSpec.upto orderSpotsSpec)

/-- 'waveletlaw16.OrderLayers', WHERE WHAT IT READS IS OF BULK AT MOST 1048576: true; the input reads as it did. -/
def orderLayersUptoRow : OpenClaim := { program := "ytpgkdpoehkdhcaa", sum := "4d0f04fc269b2ca161286ca47db9e391010d5c686f567cfb1a9c0824aa61cc98", func := "wavelet/waveletlaw16.OrderLayers", spec := "orderLayers", unfollowed := true, recurses := true, apart := false, narrowed := true }
def OrderLayersUptoSaid : Prop := orderLayersUptoRow.holds Try.pinned (OpenSpec.upto orderLayersSpec)

end Rows
end Go.Proofs.Ytpgkdpoehkdhcaa
