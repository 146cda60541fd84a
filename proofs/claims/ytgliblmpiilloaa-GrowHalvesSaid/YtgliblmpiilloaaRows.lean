/-
  No cell of these rows narrows 'for every input' (looked for: loops, veiled, ifaces, maps, wideKeys, modest, calm, conditions, laid).
  DERIVED. THE GIVEN ROWS OF THIS SEAT. 16 by the template 'for every input the law returns true; each argument reads behind the call as it read before'; 0 by the template 'total and deterministic' (their statements: YtgliblmpiilloaaTotals.lean).
  GIVEN WITH THE SEED: the statements are not yours to turn. If you find one false, say at which input.
  Laid BY PROGRAM, IN A SANDBOX (cutbox-rows.mjs): the forced cells as the released guide's own fill.sh prints them over the translation 87fdaad286c54895… (all of the seat's roots in one cut). By AI agents, Wed Nov 11 2026. No macro, syntax, notation, axiom, sorry.
-/
import Derived.Test.YtgliblmpiilloaaChecked
import GoSem.Claim
import GoSem.ClaimJoined
import GoSem.ClaimMapViews
import Derived.JoinedTies
import Derived.KernelRfl
namespace Go.Proofs.Ytgliblmpiilloaa
/- THE CELL 'sum', in the pinned program and in every row, IS THE sha256 OF THE DUMP (.gsa) THAT YtgliblmpiilloaaProg.lean LOADS. Nothing in Lean hashes anything: it is a label: what it is worth is what the hold of that sum in a sandbox is worth. -/
noncomputable def Try.pinned : Pinned := { name := "ytgliblmpiilloaa", sum := "87fdaad286c54895429466c3be34b6714ddb9c9ed59ccec6ad813c7a24ac4fa9", checked := Try.checked }
namespace Rows
def none {H : Type} : Left H := { results := [], args := [] }

/-- 'sandtablelaw07.RankedPlays': WHATEVER THE INPUT: true; the input reads as it did. -/
def rankedPlaysSpec : ChangeSpec := { name := "rankedPlays", fn := fun _ => fun
  | [d] => { results := [.lit (.bool true)], args := [d] }
  | _ => none }
def rankedPlaysRow : OpenClaim := { program := "ytgliblmpiilloaa", sum := "87fdaad286c54895429466c3be34b6714ddb9c9ed59ccec6ad813c7a24ac4fa9", func := "sandtable/sandtablelaw07.RankedPlays", spec := "rankedPlays", inPlace := ["slices.overlaps[sandtable/ranked.entry[int, int]]"], unfollowed := true, recurses := true, apart := false }
def RankedPlaysSaid : Prop := rankedPlaysRow.holds Try.pinned (OpenSpec.ofChange rankedPlaysSpec)

/-- ITS FALSE NEIGHBOUR: 'it returns false'. Refute it at one input. -/
def rankedPlaysWrong : ChangeSpec := { name := "rankedPlays", fn := fun _ => fun
  | [d] => { results := [.lit (.bool false)], args := [d] }
  | _ => none }
def RankedPlaysWrongFalsely : Prop := rankedPlaysRow.holds Try.pinned (OpenSpec.ofChange rankedPlaysWrong)

/-- 'sandtablelaw07.RankedOrders': WHATEVER THE INPUT: true; the input reads as it did. -/
def rankedOrdersSpec : ChangeSpec := { name := "rankedOrders", fn := fun _ => fun
  | [d1, d2] => { results := [.lit (.bool true)], args := [d1, d2] }
  | _ => none }
def rankedOrdersRow : OpenClaim := { program := "ytgliblmpiilloaa", sum := "87fdaad286c54895429466c3be34b6714ddb9c9ed59ccec6ad813c7a24ac4fa9", func := "sandtable/sandtablelaw07.RankedOrders", spec := "rankedOrders", inPlace := ["slices.overlaps[sandtable/ranked.entry[int, int]]"], unfollowed := true, recurses := true, apart := false }
def RankedOrdersSaid : Prop := rankedOrdersRow.holds Try.pinned (OpenSpec.ofChange rankedOrdersSpec)

/-- ITS FALSE NEIGHBOUR: 'it returns false'. Refute it at one input. -/
def rankedOrdersWrong : ChangeSpec := { name := "rankedOrders", fn := fun _ => fun
  | [d1, d2] => { results := [.lit (.bool false)], args := [d1, d2] }
  | _ => none }
def RankedOrdersWrongFalsely : Prop := rankedOrdersRow.holds Try.pinned (OpenSpec.ofChange rankedOrdersWrong)

/-- 'sandtablelaw07.RankedTexts': WHATEVER THE INPUT: true; the input reads as it did. -/
def rankedTextsSpec : ChangeSpec := { name := "rankedTexts", fn := fun _ => fun
  | [d1, d2] => { results := [.lit (.bool true)], args := [d1, d2] }
  | _ => none }
def rankedTextsRow : OpenClaim := { program := "ytgliblmpiilloaa", sum := "87fdaad286c54895429466c3be34b6714ddb9c9ed59ccec6ad813c7a24ac4fa9", func := "sandtable/sandtablelaw07.RankedTexts", spec := "rankedTexts", inPlace := ["slices.overlaps[sandtable/ranked.entry[int, int]]", "slices.overlaps[sandtable/ranked.entry[string, int]]"], unfollowed := true, recurses := true, apart := false }
def RankedTextsSaid : Prop := rankedTextsRow.holds Try.pinned (OpenSpec.ofChange rankedTextsSpec)

/-- ITS FALSE NEIGHBOUR: 'it returns false'. Refute it at one input. -/
def rankedTextsWrong : ChangeSpec := { name := "rankedTexts", fn := fun _ => fun
  | [d1, d2] => { results := [.lit (.bool false)], args := [d1, d2] }
  | _ => none }
def RankedTextsWrongFalsely : Prop := rankedTextsRow.holds Try.pinned (OpenSpec.ofChange rankedTextsWrong)

/-- 'sandtablelaw07.RankedDrops': WHATEVER THE INPUT: true; the input reads as it did. -/
def rankedDropsSpec : ChangeSpec := { name := "rankedDrops", fn := fun _ => fun
  | [d1, d2] => { results := [.lit (.bool true)], args := [d1, d2] }
  | _ => none }
def rankedDropsRow : OpenClaim := { program := "ytgliblmpiilloaa", sum := "87fdaad286c54895429466c3be34b6714ddb9c9ed59ccec6ad813c7a24ac4fa9", func := "sandtable/sandtablelaw07.RankedDrops", spec := "rankedDrops", inPlace := ["slices.overlaps[sandtable/ranked.entry[int, int]]"], unfollowed := true, recurses := true, apart := false }
def RankedDropsSaid : Prop := rankedDropsRow.holds Try.pinned (OpenSpec.ofChange rankedDropsSpec)

/-- ITS FALSE NEIGHBOUR: 'it returns false'. Refute it at one input. -/
def rankedDropsWrong : ChangeSpec := { name := "rankedDrops", fn := fun _ => fun
  | [d1, d2] => { results := [.lit (.bool false)], args := [d1, d2] }
  | _ => none }
def RankedDropsWrongFalsely : Prop := rankedDropsRow.holds Try.pinned (OpenSpec.ofChange rankedDropsWrong)

/-- 'sandtablelaw08.GraphPlays': WHATEVER THE INPUT: true; the input reads as it did. -/
def graphPlaysSpec : ChangeSpec := { name := "graphPlays", fn := fun _ => fun
  | [d1, d2, d3] => { results := [.lit (.bool true)], args := [d1, d2, d3] }
  | _ => none }
def graphPlaysRow : OpenClaim := { program := "ytgliblmpiilloaa", sum := "87fdaad286c54895429466c3be34b6714ddb9c9ed59ccec6ad813c7a24ac4fa9", func := "sandtable/sandtablelaw08.GraphPlays", spec := "graphPlays", inPlace := ["slices.overlaps[sandtable/ranked.entry[int, int64]]"], unfollowed := true, recurses := true, apart := false }
def GraphPlaysSaid : Prop := graphPlaysRow.holds Try.pinned (OpenSpec.ofChange graphPlaysSpec)

/-- ITS FALSE NEIGHBOUR: 'it returns false'. Refute it at one input. -/
def graphPlaysWrong : ChangeSpec := { name := "graphPlays", fn := fun _ => fun
  | [d1, d2, d3] => { results := [.lit (.bool false)], args := [d1, d2, d3] }
  | _ => none }
def GraphPlaysWrongFalsely : Prop := graphPlaysRow.holds Try.pinned (OpenSpec.ofChange graphPlaysWrong)

/-- 'sandtablelaw08.GraphSides': WHATEVER THE INPUT: true; the input reads as it did. -/
def graphSidesSpec : ChangeSpec := { name := "graphSides", fn := fun _ => fun
  | [d1, d2] => { results := [.lit (.bool true)], args := [d1, d2] }
  | _ => none }
def graphSidesRow : OpenClaim := { program := "ytgliblmpiilloaa", sum := "87fdaad286c54895429466c3be34b6714ddb9c9ed59ccec6ad813c7a24ac4fa9", func := "sandtable/sandtablelaw08.GraphSides", spec := "graphSides", inPlace := ["slices.overlaps[sandtable/ranked.entry[int, int64]]"], unfollowed := true, recurses := true, apart := false }
def GraphSidesSaid : Prop := graphSidesRow.holds Try.pinned (OpenSpec.ofChange graphSidesSpec)

/-- ITS FALSE NEIGHBOUR: 'it returns false'. Refute it at one input. -/
def graphSidesWrong : ChangeSpec := { name := "graphSides", fn := fun _ => fun
  | [d1, d2] => { results := [.lit (.bool false)], args := [d1, d2] }
  | _ => none }
def GraphSidesWrongFalsely : Prop := graphSidesRow.holds Try.pinned (OpenSpec.ofChange graphSidesWrong)

/-- 'sandtablelaw08.GraphOrders': WHATEVER THE INPUT: true; the input reads as it did. -/
def graphOrdersSpec : ChangeSpec := { name := "graphOrders", fn := fun _ => fun
  | [d1, d2] => { results := [.lit (.bool true)], args := [d1, d2] }
  | _ => none }
def graphOrdersRow : OpenClaim := { program := "ytgliblmpiilloaa", sum := "87fdaad286c54895429466c3be34b6714ddb9c9ed59ccec6ad813c7a24ac4fa9", func := "sandtable/sandtablelaw08.GraphOrders", spec := "graphOrders", inPlace := ["slices.overlaps[sandtable/ranked.entry[int, int64]]"], unfollowed := true, recurses := true, apart := false }
def GraphOrdersSaid : Prop := graphOrdersRow.holds Try.pinned (OpenSpec.ofChange graphOrdersSpec)

/-- ITS FALSE NEIGHBOUR: 'it returns false'. Refute it at one input. -/
def graphOrdersWrong : ChangeSpec := { name := "graphOrders", fn := fun _ => fun
  | [d1, d2] => { results := [.lit (.bool false)], args := [d1, d2] }
  | _ => none }
def GraphOrdersWrongFalsely : Prop := graphOrdersRow.holds Try.pinned (OpenSpec.ofChange graphOrdersWrong)

/-- 'sandtablelaw08.GraphBounds': WHATEVER THE INPUT: true; the input reads as it did. -/
def graphBoundsSpec : ChangeSpec := { name := "graphBounds", fn := fun _ => fun
  | [d1, d2, d3, d4] => { results := [.lit (.bool true)], args := [d1, d2, d3, d4] }
  | _ => none }
def graphBoundsRow : OpenClaim := { program := "ytgliblmpiilloaa", sum := "87fdaad286c54895429466c3be34b6714ddb9c9ed59ccec6ad813c7a24ac4fa9", func := "sandtable/sandtablelaw08.GraphBounds", spec := "graphBounds", inPlace := ["slices.overlaps[sandtable/ranked.entry[int, int64]]"], unfollowed := true, recurses := true, apart := false }
def GraphBoundsSaid : Prop := graphBoundsRow.holds Try.pinned (OpenSpec.ofChange graphBoundsSpec)

/-- ITS FALSE NEIGHBOUR: 'it returns false'. Refute it at one input. -/
def graphBoundsWrong : ChangeSpec := { name := "graphBounds", fn := fun _ => fun
  | [d1, d2, d3, d4] => { results := [.lit (.bool false)], args := [d1, d2, d3, d4] }
  | _ => none }
def GraphBoundsWrongFalsely : Prop := graphBoundsRow.holds Try.pinned (OpenSpec.ofChange graphBoundsWrong)

/-- 'sandtablelaw12.GrowHalves': WHATEVER THE INPUT: true; the input reads as it did. -/
def growHalvesSpec : ChangeSpec := { name := "growHalves", fn := fun _ => fun
  | [d1, d2, d3, d4, d5, d6, d7] => { results := [.lit (.bool true)], args := [d1, d2, d3, d4, d5, d6, d7] }
  | _ => none }
def growHalvesRow : OpenClaim := { program := "ytgliblmpiilloaa", sum := "87fdaad286c54895429466c3be34b6714ddb9c9ed59ccec6ad813c7a24ac4fa9", func := "sandtable/sandtablelaw12.GrowHalves", spec := "growHalves", inPlace := ["slices.overlaps[sandtable/ranked.entry[int, int64]]"], unfollowed := true, recurses := true, apart := false }
def GrowHalvesSaid : Prop := growHalvesRow.holds Try.pinned (OpenSpec.ofChange growHalvesSpec)

/-- ITS FALSE NEIGHBOUR: 'it returns false'. Refute it at one input. -/
def growHalvesWrong : ChangeSpec := { name := "growHalves", fn := fun _ => fun
  | [d1, d2, d3, d4, d5, d6, d7] => { results := [.lit (.bool false)], args := [d1, d2, d3, d4, d5, d6, d7] }
  | _ => none }
def GrowHalvesWrongFalsely : Prop := growHalvesRow.holds Try.pinned (OpenSpec.ofChange growHalvesWrong)

/-- 'sandtablelaw12.GrowFirst': WHATEVER THE INPUT: true; the input reads as it did. -/
def growFirstSpec : ChangeSpec := { name := "growFirst", fn := fun _ => fun
  | [d1, d2] => { results := [.lit (.bool true)], args := [d1, d2] }
  | _ => none }
def growFirstRow : OpenClaim := { program := "ytgliblmpiilloaa", sum := "87fdaad286c54895429466c3be34b6714ddb9c9ed59ccec6ad813c7a24ac4fa9", func := "sandtable/sandtablelaw12.GrowFirst", spec := "growFirst", inPlace := ["slices.overlaps[sandtable/ranked.entry[int, int64]]"], unfollowed := true, recurses := true, apart := false }
def GrowFirstSaid : Prop := growFirstRow.holds Try.pinned (OpenSpec.ofChange growFirstSpec)

/-- ITS FALSE NEIGHBOUR: 'it returns false'. Refute it at one input. -/
def growFirstWrong : ChangeSpec := { name := "growFirst", fn := fun _ => fun
  | [d1, d2] => { results := [.lit (.bool false)], args := [d1, d2] }
  | _ => none }
def GrowFirstWrongFalsely : Prop := growFirstRow.holds Try.pinned (OpenSpec.ofChange growFirstWrong)

/-- 'sandtablelaw10.PairingLists': WHATEVER THE INPUT: true; the input reads as it did. -/
def pairingListsSpec : ChangeSpec := { name := "pairingLists", fn := fun _ => fun
  | [d1, d2, d3, d4] => { results := [.lit (.bool true)], args := [d1, d2, d3, d4] }
  | _ => none }
def pairingListsRow : OpenClaim := { program := "ytgliblmpiilloaa", sum := "87fdaad286c54895429466c3be34b6714ddb9c9ed59ccec6ad813c7a24ac4fa9", func := "sandtable/sandtablelaw10.PairingLists", spec := "pairingLists", inPlace := ["slices.overlaps[sandtable/ranked.entry[int, int64]]"], unfollowed := true, recurses := true, apart := false }
def PairingListsSaid : Prop := pairingListsRow.holds Try.pinned (OpenSpec.ofChange pairingListsSpec)

/-- ITS FALSE NEIGHBOUR: 'it returns false'. Refute it at one input. -/
def pairingListsWrong : ChangeSpec := { name := "pairingLists", fn := fun _ => fun
  | [d1, d2, d3, d4] => { results := [.lit (.bool false)], args := [d1, d2, d3, d4] }
  | _ => none }
def PairingListsWrongFalsely : Prop := pairingListsRow.holds Try.pinned (OpenSpec.ofChange pairingListsWrong)

/-- 'sandtablelaw10.PairingWhole': WHATEVER THE INPUT: true; the input reads as it did. -/
def pairingWholeSpec : ChangeSpec := { name := "pairingWhole", fn := fun _ => fun
  | [d1, d2] => { results := [.lit (.bool true)], args := [d1, d2] }
  | _ => none }
def pairingWholeRow : OpenClaim := { program := "ytgliblmpiilloaa", sum := "87fdaad286c54895429466c3be34b6714ddb9c9ed59ccec6ad813c7a24ac4fa9", func := "sandtable/sandtablelaw10.PairingWhole", spec := "pairingWhole", inPlace := ["slices.overlaps[sandtable/ranked.entry[int, int64]]"], unfollowed := true, recurses := true, apart := false }
def PairingWholeSaid : Prop := pairingWholeRow.holds Try.pinned (OpenSpec.ofChange pairingWholeSpec)

/-- ITS FALSE NEIGHBOUR: 'it returns false'. Refute it at one input. -/
def pairingWholeWrong : ChangeSpec := { name := "pairingWhole", fn := fun _ => fun
  | [d1, d2] => { results := [.lit (.bool false)], args := [d1, d2] }
  | _ => none }
def PairingWholeWrongFalsely : Prop := pairingWholeRow.holds Try.pinned (OpenSpec.ofChange pairingWholeWrong)

/-- 'sandtablelaw10.PairingCounts': WHATEVER THE INPUT: true; the input reads as it did. -/
def pairingCountsSpec : ChangeSpec := { name := "pairingCounts", fn := fun _ => fun
  | [d] => { results := [.lit (.bool true)], args := [d] }
  | _ => none }
def pairingCountsRow : OpenClaim := { program := "ytgliblmpiilloaa", sum := "87fdaad286c54895429466c3be34b6714ddb9c9ed59ccec6ad813c7a24ac4fa9", func := "sandtable/sandtablelaw10.PairingCounts", spec := "pairingCounts", inPlace := ["slices.overlaps[sandtable/ranked.entry[int, int64]]"], unfollowed := true, recurses := true, apart := false }
def PairingCountsSaid : Prop := pairingCountsRow.holds Try.pinned (OpenSpec.ofChange pairingCountsSpec)

/-- ITS FALSE NEIGHBOUR: 'it returns false'. Refute it at one input. -/
def pairingCountsWrong : ChangeSpec := { name := "pairingCounts", fn := fun _ => fun
  | [d] => { results := [.lit (.bool false)], args := [d] }
  | _ => none }
def PairingCountsWrongFalsely : Prop := pairingCountsRow.holds Try.pinned (OpenSpec.ofChange pairingCountsWrong)

/-- 'sandtablelaw10.PairingFirst': WHATEVER THE INPUT: true; the input reads as it did. -/
def pairingFirstSpec : ChangeSpec := { name := "pairingFirst", fn := fun _ => fun
  | [d1, d2] => { results := [.lit (.bool true)], args := [d1, d2] }
  | _ => none }
def pairingFirstRow : OpenClaim := { program := "ytgliblmpiilloaa", sum := "87fdaad286c54895429466c3be34b6714ddb9c9ed59ccec6ad813c7a24ac4fa9", func := "sandtable/sandtablelaw10.PairingFirst", spec := "pairingFirst", inPlace := ["slices.overlaps[sandtable/ranked.entry[int, int64]]"], unfollowed := true, recurses := true, apart := false }
def PairingFirstSaid : Prop := pairingFirstRow.holds Try.pinned (OpenSpec.ofChange pairingFirstSpec)

/-- ITS FALSE NEIGHBOUR: 'it returns false'. Refute it at one input. -/
def pairingFirstWrong : ChangeSpec := { name := "pairingFirst", fn := fun _ => fun
  | [d1, d2] => { results := [.lit (.bool false)], args := [d1, d2] }
  | _ => none }
def PairingFirstWrongFalsely : Prop := pairingFirstRow.holds Try.pinned (OpenSpec.ofChange pairingFirstWrong)

/-- 'sandtablelaw12.GrowPulls': WHATEVER THE INPUT: true; the input reads as it did. -/
def growPullsSpec : ChangeSpec := { name := "growPulls", fn := fun _ => fun
  | [d1, d2, d3] => { results := [.lit (.bool true)], args := [d1, d2, d3] }
  | _ => none }
def growPullsRow : OpenClaim := { program := "ytgliblmpiilloaa", sum := "87fdaad286c54895429466c3be34b6714ddb9c9ed59ccec6ad813c7a24ac4fa9", func := "sandtable/sandtablelaw12.GrowPulls", spec := "growPulls", inPlace := ["slices.overlaps[sandtable/ranked.entry[int, int64]]"], unfollowed := true, recurses := true, apart := false }
def GrowPullsSaid : Prop := growPullsRow.holds Try.pinned (OpenSpec.ofChange growPullsSpec)

/-- ITS FALSE NEIGHBOUR: 'it returns false'. Refute it at one input. -/
def growPullsWrong : ChangeSpec := { name := "growPulls", fn := fun _ => fun
  | [d1, d2, d3] => { results := [.lit (.bool false)], args := [d1, d2, d3] }
  | _ => none }
def GrowPullsWrongFalsely : Prop := growPullsRow.holds Try.pinned (OpenSpec.ofChange growPullsWrong)

/-- 'sandtablelaw12.GrowFills': WHATEVER THE INPUT: true; the input reads as it did. -/
def growFillsSpec : ChangeSpec := { name := "growFills", fn := fun _ => fun
  | [d1, d2, d3] => { results := [.lit (.bool true)], args := [d1, d2, d3] }
  | _ => none }
def growFillsRow : OpenClaim := { program := "ytgliblmpiilloaa", sum := "87fdaad286c54895429466c3be34b6714ddb9c9ed59ccec6ad813c7a24ac4fa9", func := "sandtable/sandtablelaw12.GrowFills", spec := "growFills", inPlace := ["slices.overlaps[sandtable/ranked.entry[int, int64]]"], unfollowed := true, recurses := true, apart := false }
def GrowFillsSaid : Prop := growFillsRow.holds Try.pinned (OpenSpec.ofChange growFillsSpec)

/-- ITS FALSE NEIGHBOUR: 'it returns false'. Refute it at one input. -/
def growFillsWrong : ChangeSpec := { name := "growFills", fn := fun _ => fun
  | [d1, d2, d3] => { results := [.lit (.bool false)], args := [d1, d2, d3] }
  | _ => none }
def GrowFillsWrongFalsely : Prop := growFillsRow.holds Try.pinned (OpenSpec.ofChange growFillsWrong)

/- THE SECOND FORM. 'bulk': how many values and letters a reading holds, each counted each time it is reached (what is shared counts as often as it is met; a slice's spare places count too). A statement '..UptoSaid' is the law's where the arguments, and the package variables that the reading takes, are together of bulk at most 1048576: NARROWER than '..Said'. Prove '..Said' where nothing that the law and all that it calls make is longer than what came in: it says more and counts as full. Else prove '..UptoSaid'. A law counts once. -/
mutual
def uptoBulk {H : Type} : DataW H → Nat
  | .lit (.string bytes) => bytes.length + 1
  | .lit _ => 1
  | .nil => 1
  | .ptr d => uptoBulk d + 1
  | .slice elems spare => uptoBulkAll elems + uptoBulkAll spare + 1
  | .agg parts => uptoBulkAll parts + 1
  | .iface _ d => uptoBulk d + 1
  | .map entries => uptoBulkEntries entries + 1
  | .held _ => 1
def uptoBulkAll {H : Type} : List (DataW H) → Nat
  | [] => 0
  | d :: r => uptoBulk d + uptoBulkAll r
def uptoBulkEntries {H : Type} : List (Lit × DataW H) → Nat
  | [] => 0
  | x :: r => uptoBulkEntry x + uptoBulkEntries r
def uptoBulkEntry {H : Type} : Lit × DataW H → Nat
  | (.string bytes, d) => bytes.length + uptoBulk d + 1
  | (_, d) => uptoBulk d + 1
 end
def uptoSmall : (H : Type) → List (DataW H) → Bool := fun _ ds => decide (uptoBulkAll ds ≤ 1048576)
def OpenSpec.upto (s : _root_.Go.ChangeSpec) : _root_.Go.OpenSpec := { _root_.Go.OpenSpec.ofChange s with cond := some uptoSmall }

/-- 'sandtablelaw07.RankedPlays', WHERE WHAT IT READS IS OF BULK AT MOST 1048576: true; the input reads as it did. -/
def rankedPlaysUptoRow : OpenClaim := { program := "ytgliblmpiilloaa", sum := "87fdaad286c54895429466c3be34b6714ddb9c9ed59ccec6ad813c7a24ac4fa9", func := "sandtable/sandtablelaw07.RankedPlays", spec := "rankedPlays", inPlace := ["slices.overlaps[sandtable/ranked.entry[int, int]]"], unfollowed := true, recurses := true, apart := false, narrowed := true }
def RankedPlaysUptoSaid : Prop := rankedPlaysUptoRow.holds Try.pinned (OpenSpec.upto rankedPlaysSpec)

/-- 'sandtablelaw07.RankedOrders', WHERE WHAT IT READS IS OF BULK AT MOST 1048576: true; the input reads as it did. -/
def rankedOrdersUptoRow : OpenClaim := { program := "ytgliblmpiilloaa", sum := "87fdaad286c54895429466c3be34b6714ddb9c9ed59ccec6ad813c7a24ac4fa9", func := "sandtable/sandtablelaw07.RankedOrders", spec := "rankedOrders", inPlace := ["slices.overlaps[sandtable/ranked.entry[int, int]]"], unfollowed := true, recurses := true, apart := false, narrowed := true }
def RankedOrdersUptoSaid : Prop := rankedOrdersUptoRow.holds Try.pinned (OpenSpec.upto rankedOrdersSpec)

/-- 'sandtablelaw07.RankedTexts', WHERE WHAT IT READS IS OF BULK AT MOST 1048576: true; the input reads as it did. -/
def rankedTextsUptoRow : OpenClaim := { program := "ytgliblmpiilloaa", sum := "87fdaad286c54895429466c3be34b6714ddb9c9ed59ccec6ad813c7a24ac4fa9", func := "sandtable/sandtablelaw07.RankedTexts", spec := "rankedTexts", inPlace := ["slices.overlaps[sandtable/ranked.entry[int, int]]", "slices.overlaps[sandtable/ranked.entry[string, int]]"], unfollowed := true, recurses := true, apart := false, narrowed := true }
def RankedTextsUptoSaid : Prop := rankedTextsUptoRow.holds Try.pinned (OpenSpec.upto rankedTextsSpec)

/-- 'sandtablelaw07.RankedDrops', WHERE WHAT IT READS IS OF BULK AT MOST 1048576: true; the input reads as it did. -/
def rankedDropsUptoRow : OpenClaim := { program := "ytgliblmpiilloaa", sum := "87fdaad286c54895429466c3be34b6714ddb9c9ed59ccec6ad813c7a24ac4fa9", func := "sandtable/sandtablelaw07.RankedDrops", spec := "rankedDrops", inPlace := ["slices.overlaps[sandtable/ranked.entry[int, int]]"], unfollowed := true, recurses := true, apart := false, narrowed := true }
def RankedDropsUptoSaid : Prop := rankedDropsUptoRow.holds Try.pinned (OpenSpec.upto rankedDropsSpec)

/-- 'sandtablelaw08.GraphPlays', WHERE WHAT IT READS IS OF BULK AT MOST 1048576: true; the input reads as it did. -/
def graphPlaysUptoRow : OpenClaim := { program := "ytgliblmpiilloaa", sum := "87fdaad286c54895429466c3be34b6714ddb9c9ed59ccec6ad813c7a24ac4fa9", func := "sandtable/sandtablelaw08.GraphPlays", spec := "graphPlays", inPlace := ["slices.overlaps[sandtable/ranked.entry[int, int64]]"], unfollowed := true, recurses := true, apart := false, narrowed := true }
def GraphPlaysUptoSaid : Prop := graphPlaysUptoRow.holds Try.pinned (OpenSpec.upto graphPlaysSpec)

/-- 'sandtablelaw08.GraphSides', WHERE WHAT IT READS IS OF BULK AT MOST 1048576: true; the input reads as it did. -/
def graphSidesUptoRow : OpenClaim := { program := "ytgliblmpiilloaa", sum := "87fdaad286c54895429466c3be34b6714ddb9c9ed59ccec6ad813c7a24ac4fa9", func := "sandtable/sandtablelaw08.GraphSides", spec := "graphSides", inPlace := ["slices.overlaps[sandtable/ranked.entry[int, int64]]"], unfollowed := true, recurses := true, apart := false, narrowed := true }
def GraphSidesUptoSaid : Prop := graphSidesUptoRow.holds Try.pinned (OpenSpec.upto graphSidesSpec)

/-- 'sandtablelaw08.GraphOrders', WHERE WHAT IT READS IS OF BULK AT MOST 1048576: true; the input reads as it did. -/
def graphOrdersUptoRow : OpenClaim := { program := "ytgliblmpiilloaa", sum := "87fdaad286c54895429466c3be34b6714ddb9c9ed59ccec6ad813c7a24ac4fa9", func := "sandtable/sandtablelaw08.GraphOrders", spec := "graphOrders", inPlace := ["slices.overlaps[sandtable/ranked.entry[int, int64]]"], unfollowed := true, recurses := true, apart := false, narrowed := true }
def GraphOrdersUptoSaid : Prop := graphOrdersUptoRow.holds Try.pinned (OpenSpec.upto graphOrdersSpec)

/-- 'sandtablelaw08.GraphBounds', WHERE WHAT IT READS IS OF BULK AT MOST 1048576: true; the input reads as it did. -/
def graphBoundsUptoRow : OpenClaim := { program := "ytgliblmpiilloaa", sum := "87fdaad286c54895429466c3be34b6714ddb9c9ed59ccec6ad813c7a24ac4fa9", func := "sandtable/sandtablelaw08.GraphBounds", spec := "graphBounds", inPlace := ["slices.overlaps[sandtable/ranked.entry[int, int64]]"], unfollowed := true, recurses := true, apart := false, narrowed := true }
def GraphBoundsUptoSaid : Prop := graphBoundsUptoRow.holds Try.pinned (OpenSpec.upto graphBoundsSpec)

/-- 'sandtablelaw12.GrowHalves', WHERE WHAT IT READS IS OF BULK AT MOST 1048576: true; the input reads as it did. -/
def growHalvesUptoRow : OpenClaim := { program := "ytgliblmpiilloaa", sum := "87fdaad286c54895429466c3be34b6714ddb9c9ed59ccec6ad813c7a24ac4fa9", func := "sandtable/sandtablelaw12.GrowHalves", spec := "growHalves", inPlace := ["slices.overlaps[sandtable/ranked.entry[int, int64]]"], unfollowed := true, recurses := true, apart := false, narrowed := true }
def GrowHalvesUptoSaid : Prop := growHalvesUptoRow.holds Try.pinned (OpenSpec.upto growHalvesSpec)

/-- 'sandtablelaw12.GrowFirst', WHERE WHAT IT READS IS OF BULK AT MOST 1048576: true; the input reads as it did. -/
def growFirstUptoRow : OpenClaim := { program := "ytgliblmpiilloaa", sum := "87fdaad286c54895429466c3be34b6714ddb9c9ed59ccec6ad813c7a24ac4fa9", func := "sandtable/sandtablelaw12.GrowFirst", spec := "growFirst", inPlace := ["slices.overlaps[sandtable/ranked.entry[int, int64]]"], unfollowed := true, recurses := true, apart := false, narrowed := true }
def GrowFirstUptoSaid : Prop := growFirstUptoRow.holds Try.pinned (OpenSpec.upto growFirstSpec)

/-- 'sandtablelaw10.PairingLists', WHERE WHAT IT READS IS OF BULK AT MOST 1048576: true; the input reads as it did. -/
def pairingListsUptoRow : OpenClaim := { program := "ytgliblmpiilloaa", sum := "87fdaad286c54895429466c3be34b6714ddb9c9ed59ccec6ad813c7a24ac4fa9", func := "sandtable/sandtablelaw10.PairingLists", spec := "pairingLists", inPlace := ["slices.overlaps[sandtable/ranked.entry[int, int64]]"], unfollowed := true, recurses := true, apart := false, narrowed := true }
def PairingListsUptoSaid : Prop := pairingListsUptoRow.holds Try.pinned (OpenSpec.upto pairingListsSpec)

/-- 'sandtablelaw10.PairingWhole', WHERE WHAT IT READS IS OF BULK AT MOST 1048576: true; the input reads as it did. -/
def pairingWholeUptoRow : OpenClaim := { program := "ytgliblmpiilloaa", sum := "87fdaad286c54895429466c3be34b6714ddb9c9ed59ccec6ad813c7a24ac4fa9", func := "sandtable/sandtablelaw10.PairingWhole", spec := "pairingWhole", inPlace := ["slices.overlaps[sandtable/ranked.entry[int, int64]]"], unfollowed := true, recurses := true, apart := false, narrowed := true }
def PairingWholeUptoSaid : Prop := pairingWholeUptoRow.holds Try.pinned (OpenSpec.upto pairingWholeSpec)

/-- 'sandtablelaw10.PairingCounts', WHERE WHAT IT READS IS OF BULK AT MOST 1048576: true; the input reads as it did. -/
def pairingCountsUptoRow : OpenClaim := { program := "ytgliblmpiilloaa", sum := "87fdaad286c54895429466c3be34b6714ddb9c9ed59ccec6ad813c7a24ac4fa9", func := "sandtable/sandtablelaw10.PairingCounts", spec := "pairingCounts", inPlace := ["slices.overlaps[sandtable/ranked.entry[int, int64]]"], unfollowed := true, recurses := true, apart := false, narrowed := true }
def PairingCountsUptoSaid : Prop := pairingCountsUptoRow.holds Try.pinned (OpenSpec.upto pairingCountsSpec)

/-- 'sandtablelaw10.PairingFirst', WHERE WHAT IT READS IS OF BULK AT MOST 1048576: true; the input reads as it did. -/
def pairingFirstUptoRow : OpenClaim := { program := "ytgliblmpiilloaa", sum := "87fdaad286c54895429466c3be34b6714ddb9c9ed59ccec6ad813c7a24ac4fa9", func := "sandtable/sandtablelaw10.PairingFirst", spec := "pairingFirst", inPlace := ["slices.overlaps[sandtable/ranked.entry[int, int64]]"], unfollowed := true, recurses := true, apart := false, narrowed := true }
def PairingFirstUptoSaid : Prop := pairingFirstUptoRow.holds Try.pinned (OpenSpec.upto pairingFirstSpec)

/-- 'sandtablelaw12.GrowPulls', WHERE WHAT IT READS IS OF BULK AT MOST 1048576: true; the input reads as it did. -/
def growPullsUptoRow : OpenClaim := { program := "ytgliblmpiilloaa", sum := "87fdaad286c54895429466c3be34b6714ddb9c9ed59ccec6ad813c7a24ac4fa9", func := "sandtable/sandtablelaw12.GrowPulls", spec := "growPulls", inPlace := ["slices.overlaps[sandtable/ranked.entry[int, int64]]"], unfollowed := true, recurses := true, apart := false, narrowed := true }
def GrowPullsUptoSaid : Prop := growPullsUptoRow.holds Try.pinned (OpenSpec.upto growPullsSpec)

/-- 'sandtablelaw12.GrowFills', WHERE WHAT IT READS IS OF BULK AT MOST 1048576: true; the input reads as it did. -/
def growFillsUptoRow : OpenClaim := { program := "ytgliblmpiilloaa", sum := "87fdaad286c54895429466c3be34b6714ddb9c9ed59ccec6ad813c7a24ac4fa9", func := "sandtable/sandtablelaw12.GrowFills", spec := "growFills", inPlace := ["slices.overlaps[sandtable/ranked.entry[int, int64]]"], unfollowed := true, recurses := true, apart := false, narrowed := true }
def GrowFillsUptoSaid : Prop := growFillsUptoRow.holds Try.pinned (OpenSpec.upto growFillsSpec)

end Rows
end Go.Proofs.Ytgliblmpiilloaa
