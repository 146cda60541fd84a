/-
  No cell of these rows narrows 'for every input' (looked for: loops, veiled, ifaces, maps, wideKeys, modest, calm, conditions, laid).
  DERIVED. THE GIVEN ROWS OF THIS SEAT. 11 by the template 'for every input the law returns true; each argument reads behind the call as it read before'; 0 by the template 'total and deterministic' (their statements: YtnkjhmfliinnoaaTotals.lean).
  GIVEN WITH THE SEED: the statements are not yours to turn. If you find one false, say at which input.
  Laid BY PROGRAM, IN A SANDBOX (cutbox-rows.mjs): the forced cells as the released guide's own fill.sh prints them over the translation 83bf55fb140e4cef… (all of the seat's roots in one cut). By AI agents, Wed Nov 11 2026. No macro, syntax, notation, axiom, sorry.
-/
import Derived.Test.YtnkjhmfliinnoaaChecked
import GoSem.Claim
import GoSem.ClaimJoined
import GoSem.ClaimMapViews
import Derived.JoinedTies
import Derived.KernelRfl
namespace Go.Proofs.Ytnkjhmfliinnoaa
/- THE CELL 'sum', in the pinned program and in every row, IS THE sha256 OF THE DUMP (.gsa) THAT YtnkjhmfliinnoaaProg.lean LOADS. Nothing in Lean hashes anything: it is a label: what it is worth is what the hold of that sum in a sandbox is worth. -/
noncomputable def Try.pinned : Pinned := { name := "ytnkjhmfliinnoaa", sum := "83bf55fb140e4ceffa8a57060a38834856f078d5d66d049115f09d84c2059fd9", checked := Try.checked }
namespace Rows
def none {H : Type} : Left H := { results := [], args := [] }

/-- 'sandtabletop.WholeSplits': WHATEVER THE INPUT: true; the input reads as it did. -/
def wholeSplitsSpec : ChangeSpec := { name := "wholeSplits", fn := fun _ => fun
  | [d1, d2, d3] => { results := [.lit (.bool true)], args := [d1, d2, d3] }
  | _ => none }
def wholeSplitsRow : OpenClaim := { program := "ytnkjhmfliinnoaa", sum := "83bf55fb140e4ceffa8a57060a38834856f078d5d66d049115f09d84c2059fd9", func := "sandtable/sandtabletop.WholeSplits", spec := "wholeSplits", inPlace := ["slices.overlaps[sandtable/ranked.entry[int, int64]]"], unfollowed := true, recurses := true, apart := false }
def WholeSplitsSaid : Prop := wholeSplitsRow.holds Try.pinned (OpenSpec.ofChange wholeSplitsSpec)

/-- ITS FALSE NEIGHBOUR: 'it returns false'. Refute it at one input. -/
def wholeSplitsWrong : ChangeSpec := { name := "wholeSplits", fn := fun _ => fun
  | [d1, d2, d3] => { results := [.lit (.bool false)], args := [d1, d2, d3] }
  | _ => none }
def WholeSplitsWrongFalsely : Prop := wholeSplitsRow.holds Try.pinned (OpenSpec.ofChange wholeSplitsWrong)

/-- 'sandtabletop.WholeHalves': WHATEVER THE INPUT: true; the input reads as it did. -/
def wholeHalvesSpec : ChangeSpec := { name := "wholeHalves", fn := fun _ => fun
  | [d1, d2, d3] => { results := [.lit (.bool true)], args := [d1, d2, d3] }
  | _ => none }
def wholeHalvesRow : OpenClaim := { program := "ytnkjhmfliinnoaa", sum := "83bf55fb140e4ceffa8a57060a38834856f078d5d66d049115f09d84c2059fd9", func := "sandtable/sandtabletop.WholeHalves", spec := "wholeHalves", inPlace := ["slices.overlaps[sandtable/ranked.entry[int, int64]]"], unfollowed := true, recurses := true, apart := false }
def WholeHalvesSaid : Prop := wholeHalvesRow.holds Try.pinned (OpenSpec.ofChange wholeHalvesSpec)

/-- ITS FALSE NEIGHBOUR: 'it returns false'. Refute it at one input. -/
def wholeHalvesWrong : ChangeSpec := { name := "wholeHalves", fn := fun _ => fun
  | [d1, d2, d3] => { results := [.lit (.bool false)], args := [d1, d2, d3] }
  | _ => none }
def WholeHalvesWrongFalsely : Prop := wholeHalvesRow.holds Try.pinned (OpenSpec.ofChange wholeHalvesWrong)

/-- 'sandtablelaw21.PoolNames': WHATEVER THE INPUT: true; the input reads as it did. -/
def poolNamesSpec : ChangeSpec := { name := "poolNames", fn := fun _ => fun
  | [d1, d2, d3, d4] => { results := [.lit (.bool true)], args := [d1, d2, d3, d4] }
  | _ => none }
def poolNamesRow : OpenClaim := { program := "ytnkjhmfliinnoaa", sum := "83bf55fb140e4ceffa8a57060a38834856f078d5d66d049115f09d84c2059fd9", func := "sandtable/sandtablelaw21.PoolNames", spec := "poolNames", inPlace := ["slices.overlaps[sandtable/ranked.entry[string, bool]]"], unfollowed := true, recurses := true, apart := false }
def PoolNamesSaid : Prop := poolNamesRow.holds Try.pinned (OpenSpec.ofChange poolNamesSpec)

/-- ITS FALSE NEIGHBOUR: 'it returns false'. Refute it at one input. -/
def poolNamesWrong : ChangeSpec := { name := "poolNames", fn := fun _ => fun
  | [d1, d2, d3, d4] => { results := [.lit (.bool false)], args := [d1, d2, d3, d4] }
  | _ => none }
def PoolNamesWrongFalsely : Prop := poolNamesRow.holds Try.pinned (OpenSpec.ofChange poolNamesWrong)

/-- 'sandtablelaw21.PoolRanks': WHATEVER THE INPUT: true; the input reads as it did. -/
def poolRanksSpec : ChangeSpec := { name := "poolRanks", fn := fun _ => fun
  | [d1, d2] => { results := [.lit (.bool true)], args := [d1, d2] }
  | _ => none }
def poolRanksRow : OpenClaim := { program := "ytnkjhmfliinnoaa", sum := "83bf55fb140e4ceffa8a57060a38834856f078d5d66d049115f09d84c2059fd9", func := "sandtable/sandtablelaw21.PoolRanks", spec := "poolRanks", inPlace := ["slices.overlaps[sandtable/ranked.entry[string, bool]]"], unfollowed := true, recurses := true, apart := false }
def PoolRanksSaid : Prop := poolRanksRow.holds Try.pinned (OpenSpec.ofChange poolRanksSpec)

/-- ITS FALSE NEIGHBOUR: 'it returns false'. Refute it at one input. -/
def poolRanksWrong : ChangeSpec := { name := "poolRanks", fn := fun _ => fun
  | [d1, d2] => { results := [.lit (.bool false)], args := [d1, d2] }
  | _ => none }
def PoolRanksWrongFalsely : Prop := poolRanksRow.holds Try.pinned (OpenSpec.ofChange poolRanksWrong)

/-- 'sandtablelaw21.PoolCuts': WHATEVER THE INPUT: true; the input reads as it did. -/
def poolCutsSpec : ChangeSpec := { name := "poolCuts", fn := fun _ => fun
  | [d1, d2] => { results := [.lit (.bool true)], args := [d1, d2] }
  | _ => none }
def poolCutsRow : OpenClaim := { program := "ytnkjhmfliinnoaa", sum := "83bf55fb140e4ceffa8a57060a38834856f078d5d66d049115f09d84c2059fd9", func := "sandtable/sandtablelaw21.PoolCuts", spec := "poolCuts", inPlace := ["slices.overlaps[sandtable/ranked.entry[string, bool]]"], unfollowed := true, recurses := true, apart := false }
def PoolCutsSaid : Prop := poolCutsRow.holds Try.pinned (OpenSpec.ofChange poolCutsSpec)

/-- ITS FALSE NEIGHBOUR: 'it returns false'. Refute it at one input. -/
def poolCutsWrong : ChangeSpec := { name := "poolCuts", fn := fun _ => fun
  | [d1, d2] => { results := [.lit (.bool false)], args := [d1, d2] }
  | _ => none }
def PoolCutsWrongFalsely : Prop := poolCutsRow.holds Try.pinned (OpenSpec.ofChange poolCutsWrong)

/-- 'sandtablelaw21.PoolBack': WHATEVER THE INPUT: true; the input reads as it did. -/
def poolBackSpec : ChangeSpec := { name := "poolBack", fn := fun _ => fun
  | [d1, d2] => { results := [.lit (.bool true)], args := [d1, d2] }
  | _ => none }
def poolBackRow : OpenClaim := { program := "ytnkjhmfliinnoaa", sum := "83bf55fb140e4ceffa8a57060a38834856f078d5d66d049115f09d84c2059fd9", func := "sandtable/sandtablelaw21.PoolBack", spec := "poolBack", inPlace := ["slices.overlaps[sandtable/ranked.entry[string, bool]]"], unfollowed := true, recurses := true, apart := false }
def PoolBackSaid : Prop := poolBackRow.holds Try.pinned (OpenSpec.ofChange poolBackSpec)

/-- ITS FALSE NEIGHBOUR: 'it returns false'. Refute it at one input. -/
def poolBackWrong : ChangeSpec := { name := "poolBack", fn := fun _ => fun
  | [d1, d2] => { results := [.lit (.bool false)], args := [d1, d2] }
  | _ => none }
def PoolBackWrongFalsely : Prop := poolBackRow.holds Try.pinned (OpenSpec.ofChange poolBackWrong)

/-- 'sandtablelaw14.PartsFit': WHATEVER THE INPUT: true; the input reads as it did. -/
def partsFitSpec : ChangeSpec := { name := "partsFit", fn := fun _ => fun
  | [d1, d2, d3, d4] => { results := [.lit (.bool true)], args := [d1, d2, d3, d4] }
  | _ => none }
def partsFitRow : OpenClaim := { program := "ytnkjhmfliinnoaa", sum := "83bf55fb140e4ceffa8a57060a38834856f078d5d66d049115f09d84c2059fd9", func := "sandtable/sandtablelaw14.PartsFit", spec := "partsFit", inPlace := ["slices.overlaps[sandtable/ranked.entry[int, int64]]"], unfollowed := true, recurses := true, apart := false }
def PartsFitSaid : Prop := partsFitRow.holds Try.pinned (OpenSpec.ofChange partsFitSpec)

/-- ITS FALSE NEIGHBOUR: 'it returns false'. Refute it at one input. -/
def partsFitWrong : ChangeSpec := { name := "partsFit", fn := fun _ => fun
  | [d1, d2, d3, d4] => { results := [.lit (.bool false)], args := [d1, d2, d3, d4] }
  | _ => none }
def PartsFitWrongFalsely : Prop := partsFitRow.holds Try.pinned (OpenSpec.ofChange partsFitWrong)

/-- 'sandtablelaw14.PartsGroups': WHATEVER THE INPUT: true; the input reads as it did. -/
def partsGroupsSpec : ChangeSpec := { name := "partsGroups", fn := fun _ => fun
  | [d1, d2, d3] => { results := [.lit (.bool true)], args := [d1, d2, d3] }
  | _ => none }
def partsGroupsRow : OpenClaim := { program := "ytnkjhmfliinnoaa", sum := "83bf55fb140e4ceffa8a57060a38834856f078d5d66d049115f09d84c2059fd9", func := "sandtable/sandtablelaw14.PartsGroups", spec := "partsGroups", inPlace := ["slices.overlaps[sandtable/ranked.entry[int, int64]]"], unfollowed := true, recurses := true, apart := false }
def PartsGroupsSaid : Prop := partsGroupsRow.holds Try.pinned (OpenSpec.ofChange partsGroupsSpec)

/-- ITS FALSE NEIGHBOUR: 'it returns false'. Refute it at one input. -/
def partsGroupsWrong : ChangeSpec := { name := "partsGroups", fn := fun _ => fun
  | [d1, d2, d3] => { results := [.lit (.bool false)], args := [d1, d2, d3] }
  | _ => none }
def PartsGroupsWrongFalsely : Prop := partsGroupsRow.holds Try.pinned (OpenSpec.ofChange partsGroupsWrong)

/-- 'sandtablelaw14.PartsEach': WHATEVER THE INPUT: true; the input reads as it did. -/
def partsEachSpec : ChangeSpec := { name := "partsEach", fn := fun _ => fun
  | [d1, d2] => { results := [.lit (.bool true)], args := [d1, d2] }
  | _ => none }
def partsEachRow : OpenClaim := { program := "ytnkjhmfliinnoaa", sum := "83bf55fb140e4ceffa8a57060a38834856f078d5d66d049115f09d84c2059fd9", func := "sandtable/sandtablelaw14.PartsEach", spec := "partsEach", inPlace := ["slices.overlaps[sandtable/ranked.entry[int, int64]]"], unfollowed := true, recurses := true, apart := false }
def PartsEachSaid : Prop := partsEachRow.holds Try.pinned (OpenSpec.ofChange partsEachSpec)

/-- ITS FALSE NEIGHBOUR: 'it returns false'. Refute it at one input. -/
def partsEachWrong : ChangeSpec := { name := "partsEach", fn := fun _ => fun
  | [d1, d2] => { results := [.lit (.bool false)], args := [d1, d2] }
  | _ => none }
def PartsEachWrongFalsely : Prop := partsEachRow.holds Try.pinned (OpenSpec.ofChange partsEachWrong)

/-- 'sandtablelaw14.PartsAgain': WHATEVER THE INPUT: true; the input reads as it did. -/
def partsAgainSpec : ChangeSpec := { name := "partsAgain", fn := fun _ => fun
  | [d1, d2, d3] => { results := [.lit (.bool true)], args := [d1, d2, d3] }
  | _ => none }
def partsAgainRow : OpenClaim := { program := "ytnkjhmfliinnoaa", sum := "83bf55fb140e4ceffa8a57060a38834856f078d5d66d049115f09d84c2059fd9", func := "sandtable/sandtablelaw14.PartsAgain", spec := "partsAgain", inPlace := ["slices.overlaps[sandtable/ranked.entry[int, int64]]"], unfollowed := true, recurses := true, apart := false }
def PartsAgainSaid : Prop := partsAgainRow.holds Try.pinned (OpenSpec.ofChange partsAgainSpec)

/-- ITS FALSE NEIGHBOUR: 'it returns false'. Refute it at one input. -/
def partsAgainWrong : ChangeSpec := { name := "partsAgain", fn := fun _ => fun
  | [d1, d2, d3] => { results := [.lit (.bool false)], args := [d1, d2, d3] }
  | _ => none }
def PartsAgainWrongFalsely : Prop := partsAgainRow.holds Try.pinned (OpenSpec.ofChange partsAgainWrong)

/-- 'sandtablelaw14.PartsMends': WHATEVER THE INPUT: true; the input reads as it did. -/
def partsMendsSpec : ChangeSpec := { name := "partsMends", fn := fun _ => fun
  | [d1, d2, d3, d4] => { results := [.lit (.bool true)], args := [d1, d2, d3, d4] }
  | _ => none }
def partsMendsRow : OpenClaim := { program := "ytnkjhmfliinnoaa", sum := "83bf55fb140e4ceffa8a57060a38834856f078d5d66d049115f09d84c2059fd9", func := "sandtable/sandtablelaw14.PartsMends", spec := "partsMends", inPlace := ["slices.overlaps[sandtable/ranked.entry[int, int64]]"], unfollowed := true, recurses := true, apart := false }
def PartsMendsSaid : Prop := partsMendsRow.holds Try.pinned (OpenSpec.ofChange partsMendsSpec)

/-- ITS FALSE NEIGHBOUR: 'it returns false'. Refute it at one input. -/
def partsMendsWrong : ChangeSpec := { name := "partsMends", fn := fun _ => fun
  | [d1, d2, d3, d4] => { results := [.lit (.bool false)], args := [d1, d2, d3, d4] }
  | _ => none }
def PartsMendsWrongFalsely : Prop := partsMendsRow.holds Try.pinned (OpenSpec.ofChange partsMendsWrong)

/- THE SECOND FORM. 'bulk': how many values and letters a reading holds, each counted each time it is reached (what is shared counts as often as it is met; a slice's spare places count too). A statement '..UptoSaid' is the law's where the arguments, and the package variables that the reading takes, are together of bulk at most 1048576: NARROWER than '..Said'. Prove '..Said' where nothing that the law and all that it calls make is longer than what came in: it says more and counts as full. Else prove '..UptoSaid'. A law counts once. -/
mutual
def uptoBulk {H : Type} : DataW H → Nat
  | .lit (.string bytes) => bytes.length + 1
  | .lit _ => 1
  | .nil => 1
  | .ptr d => uptoBulk d + 1
  | .slice elems spare => uptoBulkAll elems + uptoBulkAll spare + 1
  | .agg parts => uptoBulkAll parts + 1
  | .iface _ d => uptoBulk d + 1
  | .map entries => uptoBulkEntries entries + 1
  | .held _ => 1
def uptoBulkAll {H : Type} : List (DataW H) → Nat
  | [] => 0
  | d :: r => uptoBulk d + uptoBulkAll r
def uptoBulkEntries {H : Type} : List (Lit × DataW H) → Nat
  | [] => 0
  | x :: r => uptoBulkEntry x + uptoBulkEntries r
def uptoBulkEntry {H : Type} : Lit × DataW H → Nat
  | (.string bytes, d) => bytes.length + uptoBulk d + 1
  | (_, d) => uptoBulk d + 1
 end
def uptoSmall : (H : Type) → List (DataW H) → Bool := fun _ ds => decide (uptoBulkAll ds ≤ 1048576)
def OpenSpec.upto (s : _root_.Go.ChangeSpec) : _root_.Go.OpenSpec := { _root_.Go.OpenSpec.ofChange s with cond := some uptoSmall }

/-- 'sandtabletop.WholeSplits', WHERE WHAT IT READS IS OF BULK AT MOST 1048576: true; the input reads as it did. -/
def wholeSplitsUptoRow : OpenClaim := { program := "ytnkjhmfliinnoaa", sum := "83bf55fb140e4ceffa8a57060a38834856f078d5d66d049115f09d84c2059fd9", func := "sandtable/sandtabletop.WholeSplits", spec := "wholeSplits", inPlace := ["slices.overlaps[sandtable/ranked.entry[int, int64]]"], unfollowed := true, recurses := true, apart := false, narrowed := true }
def WholeSplitsUptoSaid : Prop := wholeSplitsUptoRow.holds Try.pinned (OpenSpec.upto wholeSplitsSpec)

/-- 'sandtabletop.WholeHalves', WHERE WHAT IT READS IS OF BULK AT MOST 1048576: true; the input reads as it did. -/
def wholeHalvesUptoRow : OpenClaim := { program := "ytnkjhmfliinnoaa", sum := "83bf55fb140e4ceffa8a57060a38834856f078d5d66d049115f09d84c2059fd9", func := "sandtable/sandtabletop.WholeHalves", spec := "wholeHalves", inPlace := ["slices.overlaps[sandtable/ranked.entry[int, int64]]"], unfollowed := true, recurses := true, apart := false, narrowed := true }
def WholeHalvesUptoSaid : Prop := wholeHalvesUptoRow.holds Try.pinned (OpenSpec.upto wholeHalvesSpec)

/-- 'sandtablelaw21.PoolNames', WHERE WHAT IT READS IS OF BULK AT MOST 1048576: true; the input reads as it did. -/
def poolNamesUptoRow : OpenClaim := { program := "ytnkjhmfliinnoaa", sum := "83bf55fb140e4ceffa8a57060a38834856f078d5d66d049115f09d84c2059fd9", func := "sandtable/sandtablelaw21.PoolNames", spec := "poolNames", inPlace := ["slices.overlaps[sandtable/ranked.entry[string, bool]]"], unfollowed := true, recurses := true, apart := false, narrowed := true }
def PoolNamesUptoSaid : Prop := poolNamesUptoRow.holds Try.pinned (OpenSpec.upto poolNamesSpec)

/-- 'sandtablelaw21.PoolRanks', WHERE WHAT IT READS IS OF BULK AT MOST 1048576: true; the input reads as it did. -/
def poolRanksUptoRow : OpenClaim := { program := "ytnkjhmfliinnoaa", sum := "83bf55fb140e4ceffa8a57060a38834856f078d5d66d049115f09d84c2059fd9", func := "sandtable/sandtablelaw21.PoolRanks", spec := "poolRanks", inPlace := ["slices.overlaps[sandtable/ranked.entry[string, bool]]"], unfollowed := true, recurses := true, apart := false, narrowed := true }
def PoolRanksUptoSaid : Prop := poolRanksUptoRow.holds Try.pinned (OpenSpec.upto poolRanksSpec)

/-- 'sandtablelaw21.PoolCuts', WHERE WHAT IT READS IS OF BULK AT MOST 1048576: true; the input reads as it did. -/
def poolCutsUptoRow : OpenClaim := { program := "ytnkjhmfliinnoaa", sum := "83bf55fb140e4ceffa8a57060a38834856f078d5d66d049115f09d84c2059fd9", func := "sandtable/sandtablelaw21.PoolCuts", spec := "poolCuts", inPlace := ["slices.overlaps[sandtable/ranked.entry[string, bool]]"], unfollowed := true, recurses := true, apart := false, narrowed := true }
def PoolCutsUptoSaid : Prop := poolCutsUptoRow.holds Try.pinned (OpenSpec.upto poolCutsSpec)

/-- 'sandtablelaw21.PoolBack', WHERE WHAT IT READS IS OF BULK AT MOST 1048576: true; the input reads as it did. -/
def poolBackUptoRow : OpenClaim := { program := "ytnkjhmfliinnoaa", sum := "83bf55fb140e4ceffa8a57060a38834856f078d5d66d049115f09d84c2059fd9", func := "sandtable/sandtablelaw21.PoolBack", spec := "poolBack", inPlace := ["slices.overlaps[sandtable/ranked.entry[string, bool]]"], unfollowed := true, recurses := true, apart := false, narrowed := true }
def PoolBackUptoSaid : Prop := poolBackUptoRow.holds Try.pinned (OpenSpec.upto poolBackSpec)

/-- 'sandtablelaw14.PartsFit', WHERE WHAT IT READS IS OF BULK AT MOST 1048576: true; the input reads as it did. -/
def partsFitUptoRow : OpenClaim := { program := "ytnkjhmfliinnoaa", sum := "83bf55fb140e4ceffa8a57060a38834856f078d5d66d049115f09d84c2059fd9", func := "sandtable/sandtablelaw14.PartsFit", spec := "partsFit", inPlace := ["slices.overlaps[sandtable/ranked.entry[int, int64]]"], unfollowed := true, recurses := true, apart := false, narrowed := true }
def PartsFitUptoSaid : Prop := partsFitUptoRow.holds Try.pinned (OpenSpec.upto partsFitSpec)

/-- 'sandtablelaw14.PartsGroups', WHERE WHAT IT READS IS OF BULK AT MOST 1048576: true; the input reads as it did. -/
def partsGroupsUptoRow : OpenClaim := { program := "ytnkjhmfliinnoaa", sum := "83bf55fb140e4ceffa8a57060a38834856f078d5d66d049115f09d84c2059fd9", func := "sandtable/sandtablelaw14.PartsGroups", spec := "partsGroups", inPlace := ["slices.overlaps[sandtable/ranked.entry[int, int64]]"], unfollowed := true, recurses := true, apart := false, narrowed := true }
def PartsGroupsUptoSaid : Prop := partsGroupsUptoRow.holds Try.pinned (OpenSpec.upto partsGroupsSpec)

/-- 'sandtablelaw14.PartsEach', WHERE WHAT IT READS IS OF BULK AT MOST 1048576: true; the input reads as it did. -/
def partsEachUptoRow : OpenClaim := { program := "ytnkjhmfliinnoaa", sum := "83bf55fb140e4ceffa8a57060a38834856f078d5d66d049115f09d84c2059fd9", func := "sandtable/sandtablelaw14.PartsEach", spec := "partsEach", inPlace := ["slices.overlaps[sandtable/ranked.entry[int, int64]]"], unfollowed := true, recurses := true, apart := false, narrowed := true }
def PartsEachUptoSaid : Prop := partsEachUptoRow.holds Try.pinned (OpenSpec.upto partsEachSpec)

/-- 'sandtablelaw14.PartsAgain', WHERE WHAT IT READS IS OF BULK AT MOST 1048576: true; the input reads as it did. -/
def partsAgainUptoRow : OpenClaim := { program := "ytnkjhmfliinnoaa", sum := "83bf55fb140e4ceffa8a57060a38834856f078d5d66d049115f09d84c2059fd9", func := "sandtable/sandtablelaw14.PartsAgain", spec := "partsAgain", inPlace := ["slices.overlaps[sandtable/ranked.entry[int, int64]]"], unfollowed := true, recurses := true, apart := false, narrowed := true }
def PartsAgainUptoSaid : Prop := partsAgainUptoRow.holds Try.pinned (OpenSpec.upto partsAgainSpec)

/-- 'sandtablelaw14.PartsMends', WHERE WHAT IT READS IS OF BULK AT MOST 1048576: true; the input reads as it did. -/
def partsMendsUptoRow : OpenClaim := { program := "ytnkjhmfliinnoaa", sum := "83bf55fb140e4ceffa8a57060a38834856f078d5d66d049115f09d84c2059fd9", func := "sandtable/sandtablelaw14.PartsMends", spec := "partsMends", inPlace := ["slices.overlaps[sandtable/ranked.entry[int, int64]]"], unfollowed := true, recurses := true, apart := false, narrowed := true }
def PartsMendsUptoSaid : Prop := partsMendsUptoRow.holds Try.pinned (OpenSpec.upto partsMendsSpec)

end Rows
end Go.Proofs.Ytnkjhmfliinnoaa
