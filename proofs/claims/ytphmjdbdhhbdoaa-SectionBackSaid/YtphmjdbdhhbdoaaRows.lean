/-
  No cell of these rows narrows 'for every input' (looked for: loops, veiled, ifaces, maps, wideKeys, modest, calm, conditions, laid).
  DERIVED. THE GIVEN ROWS OF THIS SEAT. 25 by the template 'for every input the law returns true; each argument reads behind the call as it read before'; 0 by the template 'total and deterministic' (their statements: YtphmjdbdhhbdoaaTotals.lean).
  GIVEN WITH THE SEED: the statements are not yours to turn. If you find one false, say at which input.
  Laid BY PROGRAM, IN A SANDBOX (cutbox-rows.mjs): the forced cells as the released guide's own fill.sh prints them over the translation 909081cb76a5b31b… (all of the seat's roots in one cut). By AI agents, Wed Nov 11 2026. No macro, syntax, notation, axiom, sorry.
-/
import Derived.Test.YtphmjdbdhhbdoaaChecked
import GoSem.Claim
import GoSem.ClaimJoined
import GoSem.ClaimMapViews
import Derived.JoinedTies
import Derived.KernelRfl
namespace Go.Proofs.Ytphmjdbdhhbdoaa
/- THE CELL 'sum', in the pinned program and in every row, IS THE sha256 OF THE DUMP (.gsa) THAT YtphmjdbdhhbdoaaProg.lean LOADS. Nothing in Lean hashes anything: it is a label: what it is worth is what the hold of that sum in a sandbox is worth. -/
noncomputable def Try.pinned : Pinned := { name := "ytphmjdbdhhbdoaa", sum := "909081cb76a5b31b10f7042f94585d48757bbca5f75e173d9e7354db7fe117de", checked := Try.checked }
namespace Rows
def none {H : Type} : Left H := { results := [], args := [] }

/-- 'sandtablelaw02.VarintGets': WHATEVER THE INPUT: true; the input reads as it did. -/
def varintGetsSpec : ChangeSpec := { name := "varintGets", fn := fun _ => fun
  | [d] => { results := [.lit (.bool true)], args := [d] }
  | _ => none }
def varintGetsRow : OpenClaim := { program := "ytphmjdbdhhbdoaa", sum := "909081cb76a5b31b10f7042f94585d48757bbca5f75e173d9e7354db7fe117de", func := "sandtable/sandtablelaw02.VarintGets", spec := "varintGets", unfollowed := true, recurses := true, apart := false }
def VarintGetsSaid : Prop := varintGetsRow.holds Try.pinned (OpenSpec.ofChange varintGetsSpec)

/-- ITS FALSE NEIGHBOUR: 'it returns false'. Refute it at one input. -/
def varintGetsWrong : ChangeSpec := { name := "varintGets", fn := fun _ => fun
  | [d] => { results := [.lit (.bool false)], args := [d] }
  | _ => none }
def VarintGetsWrongFalsely : Prop := varintGetsRow.holds Try.pinned (OpenSpec.ofChange varintGetsWrong)

/-- 'sandtablelaw02.VarintPuts': WHATEVER THE INPUT: true; the input reads as it did. -/
def varintPutsSpec : ChangeSpec := { name := "varintPuts", fn := fun _ => fun
  | [d] => { results := [.lit (.bool true)], args := [d] }
  | _ => none }
def varintPutsRow : OpenClaim := { program := "ytphmjdbdhhbdoaa", sum := "909081cb76a5b31b10f7042f94585d48757bbca5f75e173d9e7354db7fe117de", func := "sandtable/sandtablelaw02.VarintPuts", spec := "varintPuts", unfollowed := true, recurses := true, apart := false }
def VarintPutsSaid : Prop := varintPutsRow.holds Try.pinned (OpenSpec.ofChange varintPutsSpec)

/-- ITS FALSE NEIGHBOUR: 'it returns false'. Refute it at one input. -/
def varintPutsWrong : ChangeSpec := { name := "varintPuts", fn := fun _ => fun
  | [d] => { results := [.lit (.bool false)], args := [d] }
  | _ => none }
def VarintPutsWrongFalsely : Prop := varintPutsRow.holds Try.pinned (OpenSpec.ofChange varintPutsWrong)

/-- 'sandtablelaw02.VarintLists': WHATEVER THE INPUT: true; the input reads as it did. -/
def varintListsSpec : ChangeSpec := { name := "varintLists", fn := fun _ => fun
  | [d1, d2] => { results := [.lit (.bool true)], args := [d1, d2] }
  | _ => none }
def varintListsRow : OpenClaim := { program := "ytphmjdbdhhbdoaa", sum := "909081cb76a5b31b10f7042f94585d48757bbca5f75e173d9e7354db7fe117de", func := "sandtable/sandtablelaw02.VarintLists", spec := "varintLists", unfollowed := true, recurses := true, apart := false }
def VarintListsSaid : Prop := varintListsRow.holds Try.pinned (OpenSpec.ofChange varintListsSpec)

/-- ITS FALSE NEIGHBOUR: 'it returns false'. Refute it at one input. -/
def varintListsWrong : ChangeSpec := { name := "varintLists", fn := fun _ => fun
  | [d1, d2] => { results := [.lit (.bool false)], args := [d1, d2] }
  | _ => none }
def VarintListsWrongFalsely : Prop := varintListsRow.holds Try.pinned (OpenSpec.ofChange varintListsWrong)

/-- 'sandtablelaw02.VarintBack': WHATEVER THE INPUT: true; the input reads as it did. -/
def varintBackSpec : ChangeSpec := { name := "varintBack", fn := fun _ => fun
  | [d1, d2, d3] => { results := [.lit (.bool true)], args := [d1, d2, d3] }
  | _ => none }
def varintBackRow : OpenClaim := { program := "ytphmjdbdhhbdoaa", sum := "909081cb76a5b31b10f7042f94585d48757bbca5f75e173d9e7354db7fe117de", func := "sandtable/sandtablelaw02.VarintBack", spec := "varintBack", unfollowed := true, recurses := true, apart := false }
def VarintBackSaid : Prop := varintBackRow.holds Try.pinned (OpenSpec.ofChange varintBackSpec)

/-- ITS FALSE NEIGHBOUR: 'it returns false'. Refute it at one input. -/
def varintBackWrong : ChangeSpec := { name := "varintBack", fn := fun _ => fun
  | [d1, d2, d3] => { results := [.lit (.bool false)], args := [d1, d2, d3] }
  | _ => none }
def VarintBackWrongFalsely : Prop := varintBackRow.holds Try.pinned (OpenSpec.ofChange varintBackWrong)

/-- 'sandtablelaw02.VarintLens': WHATEVER THE INPUT: true; the input reads as it did. -/
def varintLensSpec : ChangeSpec := { name := "varintLens", fn := fun _ => fun
  | [d1, d2] => { results := [.lit (.bool true)], args := [d1, d2] }
  | _ => none }
def varintLensRow : OpenClaim := { program := "ytphmjdbdhhbdoaa", sum := "909081cb76a5b31b10f7042f94585d48757bbca5f75e173d9e7354db7fe117de", func := "sandtable/sandtablelaw02.VarintLens", spec := "varintLens", unfollowed := true, recurses := true, apart := false }
def VarintLensSaid : Prop := varintLensRow.holds Try.pinned (OpenSpec.ofChange varintLensSpec)

/-- ITS FALSE NEIGHBOUR: 'it returns false'. Refute it at one input. -/
def varintLensWrong : ChangeSpec := { name := "varintLens", fn := fun _ => fun
  | [d1, d2] => { results := [.lit (.bool false)], args := [d1, d2] }
  | _ => none }
def VarintLensWrongFalsely : Prop := varintLensRow.holds Try.pinned (OpenSpec.ofChange varintLensWrong)

/-- 'sandtablelaw02.VarintRows': WHATEVER THE INPUT: true; the input reads as it did. -/
def varintRowsSpec : ChangeSpec := { name := "varintRows", fn := fun _ => fun
  | [d] => { results := [.lit (.bool true)], args := [d] }
  | _ => none }
def varintRowsRow : OpenClaim := { program := "ytphmjdbdhhbdoaa", sum := "909081cb76a5b31b10f7042f94585d48757bbca5f75e173d9e7354db7fe117de", func := "sandtable/sandtablelaw02.VarintRows", spec := "varintRows", unfollowed := true, recurses := true, apart := false }
def VarintRowsSaid : Prop := varintRowsRow.holds Try.pinned (OpenSpec.ofChange varintRowsSpec)

/-- ITS FALSE NEIGHBOUR: 'it returns false'. Refute it at one input. -/
def varintRowsWrong : ChangeSpec := { name := "varintRows", fn := fun _ => fun
  | [d] => { results := [.lit (.bool false)], args := [d] }
  | _ => none }
def VarintRowsWrongFalsely : Prop := varintRowsRow.holds Try.pinned (OpenSpec.ofChange varintRowsWrong)

/-- 'sandtablelaw04.DigestSums': WHATEVER THE INPUT: true; the input reads as it did. -/
def digestSumsSpec : ChangeSpec := { name := "digestSums", fn := fun _ => fun
  | [d1, d2, d3, d4] => { results := [.lit (.bool true)], args := [d1, d2, d3, d4] }
  | _ => none }
def digestSumsRow : OpenClaim := { program := "ytphmjdbdhhbdoaa", sum := "909081cb76a5b31b10f7042f94585d48757bbca5f75e173d9e7354db7fe117de", func := "sandtable/sandtablelaw04.DigestSums", spec := "digestSums", apart := false }
def DigestSumsSaid : Prop := digestSumsRow.holds Try.pinned (OpenSpec.ofChange digestSumsSpec)

/-- ITS FALSE NEIGHBOUR: 'it returns false'. Refute it at one input. -/
def digestSumsWrong : ChangeSpec := { name := "digestSums", fn := fun _ => fun
  | [d1, d2, d3, d4] => { results := [.lit (.bool false)], args := [d1, d2, d3, d4] }
  | _ => none }
def DigestSumsWrongFalsely : Prop := digestSumsRow.holds Try.pinned (OpenSpec.ofChange digestSumsWrong)

/-- 'sandtablelaw04.DigestSeals': WHATEVER THE INPUT: true; the input reads as it did. -/
def digestSealsSpec : ChangeSpec := { name := "digestSeals", fn := fun _ => fun
  | [d] => { results := [.lit (.bool true)], args := [d] }
  | _ => none }
def digestSealsRow : OpenClaim := { program := "ytphmjdbdhhbdoaa", sum := "909081cb76a5b31b10f7042f94585d48757bbca5f75e173d9e7354db7fe117de", func := "sandtable/sandtablelaw04.DigestSeals", spec := "digestSeals", apart := false }
def DigestSealsSaid : Prop := digestSealsRow.holds Try.pinned (OpenSpec.ofChange digestSealsSpec)

/-- ITS FALSE NEIGHBOUR: 'it returns false'. Refute it at one input. -/
def digestSealsWrong : ChangeSpec := { name := "digestSeals", fn := fun _ => fun
  | [d] => { results := [.lit (.bool false)], args := [d] }
  | _ => none }
def DigestSealsWrongFalsely : Prop := digestSealsRow.holds Try.pinned (OpenSpec.ofChange digestSealsWrong)

/-- 'sandtablelaw04.DigestBursts': WHATEVER THE INPUT: true; the input reads as it did. -/
def digestBurstsSpec : ChangeSpec := { name := "digestBursts", fn := fun _ => fun
  | [d1, d2, d3] => { results := [.lit (.bool true)], args := [d1, d2, d3] }
  | _ => none }
def digestBurstsRow : OpenClaim := { program := "ytphmjdbdhhbdoaa", sum := "909081cb76a5b31b10f7042f94585d48757bbca5f75e173d9e7354db7fe117de", func := "sandtable/sandtablelaw04.DigestBursts", spec := "digestBursts", apart := false }
def DigestBurstsSaid : Prop := digestBurstsRow.holds Try.pinned (OpenSpec.ofChange digestBurstsSpec)

/-- ITS FALSE NEIGHBOUR: 'it returns false'. Refute it at one input. -/
def digestBurstsWrong : ChangeSpec := { name := "digestBursts", fn := fun _ => fun
  | [d1, d2, d3] => { results := [.lit (.bool false)], args := [d1, d2, d3] }
  | _ => none }
def DigestBurstsWrongFalsely : Prop := digestBurstsRow.holds Try.pinned (OpenSpec.ofChange digestBurstsWrong)

/-- 'sandtablelaw04.DigestParts': WHATEVER THE INPUT: true; the input reads as it did. -/
def digestPartsSpec : ChangeSpec := { name := "digestParts", fn := fun _ => fun
  | [d1, d2, d3, d4] => { results := [.lit (.bool true)], args := [d1, d2, d3, d4] }
  | _ => none }
def digestPartsRow : OpenClaim := { program := "ytphmjdbdhhbdoaa", sum := "909081cb76a5b31b10f7042f94585d48757bbca5f75e173d9e7354db7fe117de", func := "sandtable/sandtablelaw04.DigestParts", spec := "digestParts", apart := false }
def DigestPartsSaid : Prop := digestPartsRow.holds Try.pinned (OpenSpec.ofChange digestPartsSpec)

/-- ITS FALSE NEIGHBOUR: 'it returns false'. Refute it at one input. -/
def digestPartsWrong : ChangeSpec := { name := "digestParts", fn := fun _ => fun
  | [d1, d2, d3, d4] => { results := [.lit (.bool false)], args := [d1, d2, d3, d4] }
  | _ => none }
def DigestPartsWrongFalsely : Prop := digestPartsRow.holds Try.pinned (OpenSpec.ofChange digestPartsWrong)

/-- 'sandtablelaw04.DigestTables': WHATEVER THE INPUT: true; the input reads as it did. -/
def digestTablesSpec : ChangeSpec := { name := "digestTables", fn := fun _ => fun
  | [d1, d2, d3] => { results := [.lit (.bool true)], args := [d1, d2, d3] }
  | _ => none }
def digestTablesRow : OpenClaim := { program := "ytphmjdbdhhbdoaa", sum := "909081cb76a5b31b10f7042f94585d48757bbca5f75e173d9e7354db7fe117de", func := "sandtable/sandtablelaw04.DigestTables", spec := "digestTables", apart := false }
def DigestTablesSaid : Prop := digestTablesRow.holds Try.pinned (OpenSpec.ofChange digestTablesSpec)

/-- ITS FALSE NEIGHBOUR: 'it returns false'. Refute it at one input. -/
def digestTablesWrong : ChangeSpec := { name := "digestTables", fn := fun _ => fun
  | [d1, d2, d3] => { results := [.lit (.bool false)], args := [d1, d2, d3] }
  | _ => none }
def DigestTablesWrongFalsely : Prop := digestTablesRow.holds Try.pinned (OpenSpec.ofChange digestTablesWrong)

/-- 'sandtablelaw04.DigestCuts': WHATEVER THE INPUT: true; the input reads as it did. -/
def digestCutsSpec : ChangeSpec := { name := "digestCuts", fn := fun _ => fun
  | [d] => { results := [.lit (.bool true)], args := [d] }
  | _ => none }
def digestCutsRow : OpenClaim := { program := "ytphmjdbdhhbdoaa", sum := "909081cb76a5b31b10f7042f94585d48757bbca5f75e173d9e7354db7fe117de", func := "sandtable/sandtablelaw04.DigestCuts", spec := "digestCuts", apart := false }
def DigestCutsSaid : Prop := digestCutsRow.holds Try.pinned (OpenSpec.ofChange digestCutsSpec)

/-- ITS FALSE NEIGHBOUR: 'it returns false'. Refute it at one input. -/
def digestCutsWrong : ChangeSpec := { name := "digestCuts", fn := fun _ => fun
  | [d] => { results := [.lit (.bool false)], args := [d] }
  | _ => none }
def DigestCutsWrongFalsely : Prop := digestCutsRow.holds Try.pinned (OpenSpec.ofChange digestCutsWrong)

/-- 'sandtablelaw03.WireWrites': WHATEVER THE INPUT: true; the input reads as it did. -/
def wireWritesSpec : ChangeSpec := { name := "wireWrites", fn := fun _ => fun
  | [d] => { results := [.lit (.bool true)], args := [d] }
  | _ => none }
def wireWritesRow : OpenClaim := { program := "ytphmjdbdhhbdoaa", sum := "909081cb76a5b31b10f7042f94585d48757bbca5f75e173d9e7354db7fe117de", func := "sandtable/sandtablelaw03.WireWrites", spec := "wireWrites", apart := false }
def WireWritesSaid : Prop := wireWritesRow.holds Try.pinned (OpenSpec.ofChange wireWritesSpec)

/-- ITS FALSE NEIGHBOUR: 'it returns false'. Refute it at one input. -/
def wireWritesWrong : ChangeSpec := { name := "wireWrites", fn := fun _ => fun
  | [d] => { results := [.lit (.bool false)], args := [d] }
  | _ => none }
def WireWritesWrongFalsely : Prop := wireWritesRow.holds Try.pinned (OpenSpec.ofChange wireWritesWrong)

/-- 'sandtablelaw03.WireBack': WHATEVER THE INPUT: true; the input reads as it did. -/
def wireBackSpec : ChangeSpec := { name := "wireBack", fn := fun _ => fun
  | [d1, d2] => { results := [.lit (.bool true)], args := [d1, d2] }
  | _ => none }
def wireBackRow : OpenClaim := { program := "ytphmjdbdhhbdoaa", sum := "909081cb76a5b31b10f7042f94585d48757bbca5f75e173d9e7354db7fe117de", func := "sandtable/sandtablelaw03.WireBack", spec := "wireBack", apart := false }
def WireBackSaid : Prop := wireBackRow.holds Try.pinned (OpenSpec.ofChange wireBackSpec)

/-- ITS FALSE NEIGHBOUR: 'it returns false'. Refute it at one input. -/
def wireBackWrong : ChangeSpec := { name := "wireBack", fn := fun _ => fun
  | [d1, d2] => { results := [.lit (.bool false)], args := [d1, d2] }
  | _ => none }
def WireBackWrongFalsely : Prop := wireBackRow.holds Try.pinned (OpenSpec.ofChange wireBackWrong)

/-- 'sandtablelaw03.WireJoins': WHATEVER THE INPUT: true; the input reads as it did. -/
def wireJoinsSpec : ChangeSpec := { name := "wireJoins", fn := fun _ => fun
  | [d1, d2] => { results := [.lit (.bool true)], args := [d1, d2] }
  | _ => none }
def wireJoinsRow : OpenClaim := { program := "ytphmjdbdhhbdoaa", sum := "909081cb76a5b31b10f7042f94585d48757bbca5f75e173d9e7354db7fe117de", func := "sandtable/sandtablelaw03.WireJoins", spec := "wireJoins", apart := false }
def WireJoinsSaid : Prop := wireJoinsRow.holds Try.pinned (OpenSpec.ofChange wireJoinsSpec)

/-- ITS FALSE NEIGHBOUR: 'it returns false'. Refute it at one input. -/
def wireJoinsWrong : ChangeSpec := { name := "wireJoins", fn := fun _ => fun
  | [d1, d2] => { results := [.lit (.bool false)], args := [d1, d2] }
  | _ => none }
def WireJoinsWrongFalsely : Prop := wireJoinsRow.holds Try.pinned (OpenSpec.ofChange wireJoinsWrong)

/-- 'sandtablelaw03.WireStays': WHATEVER THE INPUT: true; the input reads as it did. -/
def wireStaysSpec : ChangeSpec := { name := "wireStays", fn := fun _ => fun
  | [d1, d2] => { results := [.lit (.bool true)], args := [d1, d2] }
  | _ => none }
def wireStaysRow : OpenClaim := { program := "ytphmjdbdhhbdoaa", sum := "909081cb76a5b31b10f7042f94585d48757bbca5f75e173d9e7354db7fe117de", func := "sandtable/sandtablelaw03.WireStays", spec := "wireStays", apart := false }
def WireStaysSaid : Prop := wireStaysRow.holds Try.pinned (OpenSpec.ofChange wireStaysSpec)

/-- ITS FALSE NEIGHBOUR: 'it returns false'. Refute it at one input. -/
def wireStaysWrong : ChangeSpec := { name := "wireStays", fn := fun _ => fun
  | [d1, d2] => { results := [.lit (.bool false)], args := [d1, d2] }
  | _ => none }
def WireStaysWrongFalsely : Prop := wireStaysRow.holds Try.pinned (OpenSpec.ofChange wireStaysWrong)

/-- 'sandtablelaw22.SectionPacks': WHATEVER THE INPUT: true; the input reads as it did. -/
def sectionPacksSpec : ChangeSpec := { name := "sectionPacks", fn := fun _ => fun
  | [d1, d2, d3] => { results := [.lit (.bool true)], args := [d1, d2, d3] }
  | _ => none }
def sectionPacksRow : OpenClaim := { program := "ytphmjdbdhhbdoaa", sum := "909081cb76a5b31b10f7042f94585d48757bbca5f75e173d9e7354db7fe117de", func := "sandtable/sandtablelaw22.SectionPacks", spec := "sectionPacks", unfollowed := true, recurses := true, apart := false }
def SectionPacksSaid : Prop := sectionPacksRow.holds Try.pinned (OpenSpec.ofChange sectionPacksSpec)

/-- ITS FALSE NEIGHBOUR: 'it returns false'. Refute it at one input. -/
def sectionPacksWrong : ChangeSpec := { name := "sectionPacks", fn := fun _ => fun
  | [d1, d2, d3] => { results := [.lit (.bool false)], args := [d1, d2, d3] }
  | _ => none }
def SectionPacksWrongFalsely : Prop := sectionPacksRow.holds Try.pinned (OpenSpec.ofChange sectionPacksWrong)

/-- 'sandtablelaw22.SectionUnpacks': WHATEVER THE INPUT: true; the input reads as it did. -/
def sectionUnpacksSpec : ChangeSpec := { name := "sectionUnpacks", fn := fun _ => fun
  | [d] => { results := [.lit (.bool true)], args := [d] }
  | _ => none }
def sectionUnpacksRow : OpenClaim := { program := "ytphmjdbdhhbdoaa", sum := "909081cb76a5b31b10f7042f94585d48757bbca5f75e173d9e7354db7fe117de", func := "sandtable/sandtablelaw22.SectionUnpacks", spec := "sectionUnpacks", unfollowed := true, recurses := true, apart := false }
def SectionUnpacksSaid : Prop := sectionUnpacksRow.holds Try.pinned (OpenSpec.ofChange sectionUnpacksSpec)

/-- ITS FALSE NEIGHBOUR: 'it returns false'. Refute it at one input. -/
def sectionUnpacksWrong : ChangeSpec := { name := "sectionUnpacks", fn := fun _ => fun
  | [d] => { results := [.lit (.bool false)], args := [d] }
  | _ => none }
def SectionUnpacksWrongFalsely : Prop := sectionUnpacksRow.holds Try.pinned (OpenSpec.ofChange sectionUnpacksWrong)

/-- 'sandtablelaw22.SectionBack': WHATEVER THE INPUT: true; the input reads as it did. -/
def sectionBackSpec : ChangeSpec := { name := "sectionBack", fn := fun _ => fun
  | [d1, d2, d3, d4] => { results := [.lit (.bool true)], args := [d1, d2, d3, d4] }
  | _ => none }
def sectionBackRow : OpenClaim := { program := "ytphmjdbdhhbdoaa", sum := "909081cb76a5b31b10f7042f94585d48757bbca5f75e173d9e7354db7fe117de", func := "sandtable/sandtablelaw22.SectionBack", spec := "sectionBack", unfollowed := true, recurses := true, apart := false }
def SectionBackSaid : Prop := sectionBackRow.holds Try.pinned (OpenSpec.ofChange sectionBackSpec)

/-- ITS FALSE NEIGHBOUR: 'it returns false'. Refute it at one input. -/
def sectionBackWrong : ChangeSpec := { name := "sectionBack", fn := fun _ => fun
  | [d1, d2, d3, d4] => { results := [.lit (.bool false)], args := [d1, d2, d3, d4] }
  | _ => none }
def SectionBackWrongFalsely : Prop := sectionBackRow.holds Try.pinned (OpenSpec.ofChange sectionBackWrong)

/-- 'sandtablelaw22.SectionSizes': WHATEVER THE INPUT: true; the input reads as it did. -/
def sectionSizesSpec : ChangeSpec := { name := "sectionSizes", fn := fun _ => fun
  | [d] => { results := [.lit (.bool true)], args := [d] }
  | _ => none }
def sectionSizesRow : OpenClaim := { program := "ytphmjdbdhhbdoaa", sum := "909081cb76a5b31b10f7042f94585d48757bbca5f75e173d9e7354db7fe117de", func := "sandtable/sandtablelaw22.SectionSizes", spec := "sectionSizes", unfollowed := true, recurses := true, apart := false }
def SectionSizesSaid : Prop := sectionSizesRow.holds Try.pinned (OpenSpec.ofChange sectionSizesSpec)

/-- ITS FALSE NEIGHBOUR: 'it returns false'. Refute it at one input. -/
def sectionSizesWrong : ChangeSpec := { name := "sectionSizes", fn := fun _ => fun
  | [d] => { results := [.lit (.bool false)], args := [d] }
  | _ => none }
def SectionSizesWrongFalsely : Prop := sectionSizesRow.holds Try.pinned (OpenSpec.ofChange sectionSizesWrong)

/-- 'sandtablelaw22.SectionTurns': WHATEVER THE INPUT: true; the input reads as it did. -/
def sectionTurnsSpec : ChangeSpec := { name := "sectionTurns", fn := fun _ => fun
  | [d1, d2, d3] => { results := [.lit (.bool true)], args := [d1, d2, d3] }
  | _ => none }
def sectionTurnsRow : OpenClaim := { program := "ytphmjdbdhhbdoaa", sum := "909081cb76a5b31b10f7042f94585d48757bbca5f75e173d9e7354db7fe117de", func := "sandtable/sandtablelaw22.SectionTurns", spec := "sectionTurns", unfollowed := true, recurses := true, apart := false }
def SectionTurnsSaid : Prop := sectionTurnsRow.holds Try.pinned (OpenSpec.ofChange sectionTurnsSpec)

/-- ITS FALSE NEIGHBOUR: 'it returns false'. Refute it at one input. -/
def sectionTurnsWrong : ChangeSpec := { name := "sectionTurns", fn := fun _ => fun
  | [d1, d2, d3] => { results := [.lit (.bool false)], args := [d1, d2, d3] }
  | _ => none }
def SectionTurnsWrongFalsely : Prop := sectionTurnsRow.holds Try.pinned (OpenSpec.ofChange sectionTurnsWrong)

/-- 'sandtablelaw21.PoolNames': WHATEVER THE INPUT: true; the input reads as it did. -/
def poolNamesSpec : ChangeSpec := { name := "poolNames", fn := fun _ => fun
  | [d1, d2, d3, d4] => { results := [.lit (.bool true)], args := [d1, d2, d3, d4] }
  | _ => none }
def poolNamesRow : OpenClaim := { program := "ytphmjdbdhhbdoaa", sum := "909081cb76a5b31b10f7042f94585d48757bbca5f75e173d9e7354db7fe117de", func := "sandtable/sandtablelaw21.PoolNames", spec := "poolNames", inPlace := ["slices.overlaps[sandtable/ranked.entry[string, bool]]"], unfollowed := true, recurses := true, apart := false }
def PoolNamesSaid : Prop := poolNamesRow.holds Try.pinned (OpenSpec.ofChange poolNamesSpec)

/-- ITS FALSE NEIGHBOUR: 'it returns false'. Refute it at one input. -/
def poolNamesWrong : ChangeSpec := { name := "poolNames", fn := fun _ => fun
  | [d1, d2, d3, d4] => { results := [.lit (.bool false)], args := [d1, d2, d3, d4] }
  | _ => none }
def PoolNamesWrongFalsely : Prop := poolNamesRow.holds Try.pinned (OpenSpec.ofChange poolNamesWrong)

/-- 'sandtablelaw21.PoolRanks': WHATEVER THE INPUT: true; the input reads as it did. -/
def poolRanksSpec : ChangeSpec := { name := "poolRanks", fn := fun _ => fun
  | [d1, d2] => { results := [.lit (.bool true)], args := [d1, d2] }
  | _ => none }
def poolRanksRow : OpenClaim := { program := "ytphmjdbdhhbdoaa", sum := "909081cb76a5b31b10f7042f94585d48757bbca5f75e173d9e7354db7fe117de", func := "sandtable/sandtablelaw21.PoolRanks", spec := "poolRanks", inPlace := ["slices.overlaps[sandtable/ranked.entry[string, bool]]"], unfollowed := true, recurses := true, apart := false }
def PoolRanksSaid : Prop := poolRanksRow.holds Try.pinned (OpenSpec.ofChange poolRanksSpec)

/-- ITS FALSE NEIGHBOUR: 'it returns false'. Refute it at one input. -/
def poolRanksWrong : ChangeSpec := { name := "poolRanks", fn := fun _ => fun
  | [d1, d2] => { results := [.lit (.bool false)], args := [d1, d2] }
  | _ => none }
def PoolRanksWrongFalsely : Prop := poolRanksRow.holds Try.pinned (OpenSpec.ofChange poolRanksWrong)

/-- 'sandtablelaw21.PoolCuts': WHATEVER THE INPUT: true; the input reads as it did. -/
def poolCutsSpec : ChangeSpec := { name := "poolCuts", fn := fun _ => fun
  | [d1, d2] => { results := [.lit (.bool true)], args := [d1, d2] }
  | _ => none }
def poolCutsRow : OpenClaim := { program := "ytphmjdbdhhbdoaa", sum := "909081cb76a5b31b10f7042f94585d48757bbca5f75e173d9e7354db7fe117de", func := "sandtable/sandtablelaw21.PoolCuts", spec := "poolCuts", inPlace := ["slices.overlaps[sandtable/ranked.entry[string, bool]]"], unfollowed := true, recurses := true, apart := false }
def PoolCutsSaid : Prop := poolCutsRow.holds Try.pinned (OpenSpec.ofChange poolCutsSpec)

/-- ITS FALSE NEIGHBOUR: 'it returns false'. Refute it at one input. -/
def poolCutsWrong : ChangeSpec := { name := "poolCuts", fn := fun _ => fun
  | [d1, d2] => { results := [.lit (.bool false)], args := [d1, d2] }
  | _ => none }
def PoolCutsWrongFalsely : Prop := poolCutsRow.holds Try.pinned (OpenSpec.ofChange poolCutsWrong)

/-- 'sandtablelaw21.PoolBack': WHATEVER THE INPUT: true; the input reads as it did. -/
def poolBackSpec : ChangeSpec := { name := "poolBack", fn := fun _ => fun
  | [d1, d2] => { results := [.lit (.bool true)], args := [d1, d2] }
  | _ => none }
def poolBackRow : OpenClaim := { program := "ytphmjdbdhhbdoaa", sum := "909081cb76a5b31b10f7042f94585d48757bbca5f75e173d9e7354db7fe117de", func := "sandtable/sandtablelaw21.PoolBack", spec := "poolBack", inPlace := ["slices.overlaps[sandtable/ranked.entry[string, bool]]"], unfollowed := true, recurses := true, apart := false }
def PoolBackSaid : Prop := poolBackRow.holds Try.pinned (OpenSpec.ofChange poolBackSpec)

/-- ITS FALSE NEIGHBOUR: 'it returns false'. Refute it at one input. -/
def poolBackWrong : ChangeSpec := { name := "poolBack", fn := fun _ => fun
  | [d1, d2] => { results := [.lit (.bool false)], args := [d1, d2] }
  | _ => none }
def PoolBackWrongFalsely : Prop := poolBackRow.holds Try.pinned (OpenSpec.ofChange poolBackWrong)

/- THE SECOND FORM. 'bulk': how many values and letters a reading holds, each counted each time it is reached (what is shared counts as often as it is met; a slice's spare places count too). A statement '..UptoSaid' is the law's where the arguments, and the package variables that the reading takes, are together of bulk at most 1048576: NARROWER than '..Said'. Prove '..Said' where nothing that the law and all that it calls make is longer than what came in: it says more and counts as full. Else prove '..UptoSaid'. A law counts once. -/
mutual
def uptoBulk {H : Type} : DataW H → Nat
  | .lit (.string bytes) => bytes.length + 1
  | .lit _ => 1
  | .nil => 1
  | .ptr d => uptoBulk d + 1
  | .slice elems spare => uptoBulkAll elems + uptoBulkAll spare + 1
  | .agg parts => uptoBulkAll parts + 1
  | .iface _ d => uptoBulk d + 1
  | .map entries => uptoBulkEntries entries + 1
  | .held _ => 1
def uptoBulkAll {H : Type} : List (DataW H) → Nat
  | [] => 0
  | d :: r => uptoBulk d + uptoBulkAll r
def uptoBulkEntries {H : Type} : List (Lit × DataW H) → Nat
  | [] => 0
  | x :: r => uptoBulkEntry x + uptoBulkEntries r
def uptoBulkEntry {H : Type} : Lit × DataW H → Nat
  | (.string bytes, d) => bytes.length + uptoBulk d + 1
  | (_, d) => uptoBulk d + 1
 end
def uptoSmall : (H : Type) → List (DataW H) → Bool := fun _ ds => decide (uptoBulkAll ds ≤ 1048576)
def OpenSpec.upto (s : _root_.Go.ChangeSpec) : _root_.Go.OpenSpec := { _root_.Go.OpenSpec.ofChange s with cond := some uptoSmall }

/-- 'sandtablelaw02.VarintGets', WHERE WHAT IT READS IS OF BULK AT MOST 1048576: true; the input reads as it did. -/
def varintGetsUptoRow : OpenClaim := { program := "ytphmjdbdhhbdoaa", sum := "909081cb76a5b31b10f7042f94585d48757bbca5f75e173d9e7354db7fe117de", func := "sandtable/sandtablelaw02.VarintGets", spec := "varintGets", unfollowed := true, recurses := true, apart := false, narrowed := true }
def VarintGetsUptoSaid : Prop := varintGetsUptoRow.holds Try.pinned (OpenSpec.upto varintGetsSpec)

/-- 'sandtablelaw02.VarintPuts', WHERE WHAT IT READS IS OF BULK AT MOST 1048576: true; the input reads as it did. -/
def varintPutsUptoRow : OpenClaim := { program := "ytphmjdbdhhbdoaa", sum := "909081cb76a5b31b10f7042f94585d48757bbca5f75e173d9e7354db7fe117de", func := "sandtable/sandtablelaw02.VarintPuts", spec := "varintPuts", unfollowed := true, recurses := true, apart := false, narrowed := true }
def VarintPutsUptoSaid : Prop := varintPutsUptoRow.holds Try.pinned (OpenSpec.upto varintPutsSpec)

/-- 'sandtablelaw02.VarintLists', WHERE WHAT IT READS IS OF BULK AT MOST 1048576: true; the input reads as it did. -/
def varintListsUptoRow : OpenClaim := { program := "ytphmjdbdhhbdoaa", sum := "909081cb76a5b31b10f7042f94585d48757bbca5f75e173d9e7354db7fe117de", func := "sandtable/sandtablelaw02.VarintLists", spec := "varintLists", unfollowed := true, recurses := true, apart := false, narrowed := true }
def VarintListsUptoSaid : Prop := varintListsUptoRow.holds Try.pinned (OpenSpec.upto varintListsSpec)

/-- 'sandtablelaw02.VarintBack', WHERE WHAT IT READS IS OF BULK AT MOST 1048576: true; the input reads as it did. -/
def varintBackUptoRow : OpenClaim := { program := "ytphmjdbdhhbdoaa", sum := "909081cb76a5b31b10f7042f94585d48757bbca5f75e173d9e7354db7fe117de", func := "sandtable/sandtablelaw02.VarintBack", spec := "varintBack", unfollowed := true, recurses := true, apart := false, narrowed := true }
def VarintBackUptoSaid : Prop := varintBackUptoRow.holds Try.pinned (OpenSpec.upto varintBackSpec)

/-- 'sandtablelaw02.VarintLens', WHERE WHAT IT READS IS OF BULK AT MOST 1048576: true; the input reads as it did. -/
def varintLensUptoRow : OpenClaim := { program := "ytphmjdbdhhbdoaa", sum := "909081cb76a5b31b10f7042f94585d48757bbca5f75e173d9e7354db7fe117de", func := "sandtable/sandtablelaw02.VarintLens", spec := "varintLens", unfollowed := true, recurses := true, apart := false, narrowed := true }
def VarintLensUptoSaid : Prop := varintLensUptoRow.holds Try.pinned (OpenSpec.upto varintLensSpec)

/-- 'sandtablelaw02.VarintRows', WHERE WHAT IT READS IS OF BULK AT MOST 1048576: true; the input reads as it did. -/
def varintRowsUptoRow : OpenClaim := { program := "ytphmjdbdhhbdoaa", sum := "909081cb76a5b31b10f7042f94585d48757bbca5f75e173d9e7354db7fe117de", func := "sandtable/sandtablelaw02.VarintRows", spec := "varintRows", unfollowed := true, recurses := true, apart := false, narrowed := true }
def VarintRowsUptoSaid : Prop := varintRowsUptoRow.holds Try.pinned (OpenSpec.upto varintRowsSpec)

/-- 'sandtablelaw04.DigestSums', WHERE WHAT IT READS IS OF BULK AT MOST 1048576: true; the input reads as it did. -/
def digestSumsUptoRow : OpenClaim := { program := "ytphmjdbdhhbdoaa", sum := "909081cb76a5b31b10f7042f94585d48757bbca5f75e173d9e7354db7fe117de", func := "sandtable/sandtablelaw04.DigestSums", spec := "digestSums", apart := false, narrowed := true }
def DigestSumsUptoSaid : Prop := digestSumsUptoRow.holds Try.pinned (OpenSpec.upto digestSumsSpec)

/-- 'sandtablelaw04.DigestSeals', WHERE WHAT IT READS IS OF BULK AT MOST 1048576: true; the input reads as it did. -/
def digestSealsUptoRow : OpenClaim := { program := "ytphmjdbdhhbdoaa", sum := "909081cb76a5b31b10f7042f94585d48757bbca5f75e173d9e7354db7fe117de", func := "sandtable/sandtablelaw04.DigestSeals", spec := "digestSeals", apart := false, narrowed := true }
def DigestSealsUptoSaid : Prop := digestSealsUptoRow.holds Try.pinned (OpenSpec.upto digestSealsSpec)

/-- 'sandtablelaw04.DigestBursts', WHERE WHAT IT READS IS OF BULK AT MOST 1048576: true; the input reads as it did. -/
def digestBurstsUptoRow : OpenClaim := { program := "ytphmjdbdhhbdoaa", sum := "909081cb76a5b31b10f7042f94585d48757bbca5f75e173d9e7354db7fe117de", func := "sandtable/sandtablelaw04.DigestBursts", spec := "digestBursts", apart := false, narrowed := true }
def DigestBurstsUptoSaid : Prop := digestBurstsUptoRow.holds Try.pinned (OpenSpec.upto digestBurstsSpec)

/-- 'sandtablelaw04.DigestParts', WHERE WHAT IT READS IS OF BULK AT MOST 1048576: true; the input reads as it did. -/
def digestPartsUptoRow : OpenClaim := { program := "ytphmjdbdhhbdoaa", sum := "909081cb76a5b31b10f7042f94585d48757bbca5f75e173d9e7354db7fe117de", func := "sandtable/sandtablelaw04.DigestParts", spec := "digestParts", apart := false, narrowed := true }
def DigestPartsUptoSaid : Prop := digestPartsUptoRow.holds Try.pinned (OpenSpec.upto digestPartsSpec)

/-- 'sandtablelaw04.DigestTables', WHERE WHAT IT READS IS OF BULK AT MOST 1048576: true; the input reads as it did. -/
def digestTablesUptoRow : OpenClaim := { program := "ytphmjdbdhhbdoaa", sum := "909081cb76a5b31b10f7042f94585d48757bbca5f75e173d9e7354db7fe117de", func := "sandtable/sandtablelaw04.DigestTables", spec := "digestTables", apart := false, narrowed := true }
def DigestTablesUptoSaid : Prop := digestTablesUptoRow.holds Try.pinned (OpenSpec.upto digestTablesSpec)

/-- 'sandtablelaw04.DigestCuts', WHERE WHAT IT READS IS OF BULK AT MOST 1048576: true; the input reads as it did. -/
def digestCutsUptoRow : OpenClaim := { program := "ytphmjdbdhhbdoaa", sum := "909081cb76a5b31b10f7042f94585d48757bbca5f75e173d9e7354db7fe117de", func := "sandtable/sandtablelaw04.DigestCuts", spec := "digestCuts", apart := false, narrowed := true }
def DigestCutsUptoSaid : Prop := digestCutsUptoRow.holds Try.pinned (OpenSpec.upto digestCutsSpec)

/-- 'sandtablelaw03.WireWrites', WHERE WHAT IT READS IS OF BULK AT MOST 1048576: true; the input reads as it did. -/
def wireWritesUptoRow : OpenClaim := { program := "ytphmjdbdhhbdoaa", sum := "909081cb76a5b31b10f7042f94585d48757bbca5f75e173d9e7354db7fe117de", func := "sandtable/sandtablelaw03.WireWrites", spec := "wireWrites", apart := false, narrowed := true }
def WireWritesUptoSaid : Prop := wireWritesUptoRow.holds Try.pinned (OpenSpec.upto wireWritesSpec)

/-- 'sandtablelaw03.WireBack', WHERE WHAT IT READS IS OF BULK AT MOST 1048576: true; the input reads as it did. -/
def wireBackUptoRow : OpenClaim := { program := "ytphmjdbdhhbdoaa", sum := "909081cb76a5b31b10f7042f94585d48757bbca5f75e173d9e7354db7fe117de", func := "sandtable/sandtablelaw03.WireBack", spec := "wireBack", apart := false, narrowed := true }
def WireBackUptoSaid : Prop := wireBackUptoRow.holds Try.pinned (OpenSpec.upto wireBackSpec)

/-- 'sandtablelaw03.WireJoins', WHERE WHAT IT READS IS OF BULK AT MOST 1048576: true; the input reads as it did. -/
def wireJoinsUptoRow : OpenClaim := { program := "ytphmjdbdhhbdoaa", sum := "909081cb76a5b31b10f7042f94585d48757bbca5f75e173d9e7354db7fe117de", func := "sandtable/sandtablelaw03.WireJoins", spec := "wireJoins", apart := false, narrowed := true }
def WireJoinsUptoSaid : Prop := wireJoinsUptoRow.holds Try.pinned (OpenSpec.upto wireJoinsSpec)

/-- 'sandtablelaw03.WireStays', WHERE WHAT IT READS IS OF BULK AT MOST 1048576: true; the input reads as it did. -/
def wireStaysUptoRow : OpenClaim := { program := "ytphmjdbdhhbdoaa", sum := "909081cb76a5b31b10f7042f94585d48757bbca5f75e173d9e7354db7fe117de", func := "sandtable/sandtablelaw03.WireStays", spec := "wireStays", apart := false, narrowed := true }
def WireStaysUptoSaid : Prop := wireStaysUptoRow.holds Try.pinned (OpenSpec.upto wireStaysSpec)

/-- 'sandtablelaw22.SectionPacks', WHERE WHAT IT READS IS OF BULK AT MOST 1048576: true; the input reads as it did. -/
def sectionPacksUptoRow : OpenClaim := { program := "ytphmjdbdhhbdoaa", sum := "909081cb76a5b31b10f7042f94585d48757bbca5f75e173d9e7354db7fe117de", func := "sandtable/sandtablelaw22.SectionPacks", spec := "sectionPacks", unfollowed := true, recurses := true, apart := false, narrowed := true }
def SectionPacksUptoSaid : Prop := sectionPacksUptoRow.holds Try.pinned (OpenSpec.upto sectionPacksSpec)

/-- 'sandtablelaw22.SectionUnpacks', WHERE WHAT IT READS IS OF BULK AT MOST 1048576: true; the input reads as it did. -/
def sectionUnpacksUptoRow : OpenClaim := { program := "ytphmjdbdhhbdoaa", sum := "909081cb76a5b31b10f7042f94585d48757bbca5f75e173d9e7354db7fe117de", func := "sandtable/sandtablelaw22.SectionUnpacks", spec := "sectionUnpacks", unfollowed := true, recurses := true, apart := false, narrowed := true }
def SectionUnpacksUptoSaid : Prop := sectionUnpacksUptoRow.holds Try.pinned (OpenSpec.upto sectionUnpacksSpec)

/-- 'sandtablelaw22.SectionBack', WHERE WHAT IT READS IS OF BULK AT MOST 1048576: true; the input reads as it did. -/
def sectionBackUptoRow : OpenClaim := { program := "ytphmjdbdhhbdoaa", sum := "909081cb76a5b31b10f7042f94585d48757bbca5f75e173d9e7354db7fe117de", func := "sandtable/sandtablelaw22.SectionBack", spec := "sectionBack", unfollowed := true, recurses := true, apart := false, narrowed := true }
def SectionBackUptoSaid : Prop := sectionBackUptoRow.holds Try.pinned (OpenSpec.upto sectionBackSpec)

/-- 'sandtablelaw22.SectionSizes', WHERE WHAT IT READS IS OF BULK AT MOST 1048576: true; the input reads as it did. -/
def sectionSizesUptoRow : OpenClaim := { program := "ytphmjdbdhhbdoaa", sum := "909081cb76a5b31b10f7042f94585d48757bbca5f75e173d9e7354db7fe117de", func := "sandtable/sandtablelaw22.SectionSizes", spec := "sectionSizes", unfollowed := true, recurses := true, apart := false, narrowed := true }
def SectionSizesUptoSaid : Prop := sectionSizesUptoRow.holds Try.pinned (OpenSpec.upto sectionSizesSpec)

/-- 'sandtablelaw22.SectionTurns', WHERE WHAT IT READS IS OF BULK AT MOST 1048576: true; the input reads as it did. -/
def sectionTurnsUptoRow : OpenClaim := { program := "ytphmjdbdhhbdoaa", sum := "909081cb76a5b31b10f7042f94585d48757bbca5f75e173d9e7354db7fe117de", func := "sandtable/sandtablelaw22.SectionTurns", spec := "sectionTurns", unfollowed := true, recurses := true, apart := false, narrowed := true }
def SectionTurnsUptoSaid : Prop := sectionTurnsUptoRow.holds Try.pinned (OpenSpec.upto sectionTurnsSpec)

/-- 'sandtablelaw21.PoolNames', WHERE WHAT IT READS IS OF BULK AT MOST 1048576: true; the input reads as it did. -/
def poolNamesUptoRow : OpenClaim := { program := "ytphmjdbdhhbdoaa", sum := "909081cb76a5b31b10f7042f94585d48757bbca5f75e173d9e7354db7fe117de", func := "sandtable/sandtablelaw21.PoolNames", spec := "poolNames", inPlace := ["slices.overlaps[sandtable/ranked.entry[string, bool]]"], unfollowed := true, recurses := true, apart := false, narrowed := true }
def PoolNamesUptoSaid : Prop := poolNamesUptoRow.holds Try.pinned (OpenSpec.upto poolNamesSpec)

/-- 'sandtablelaw21.PoolRanks', WHERE WHAT IT READS IS OF BULK AT MOST 1048576: true; the input reads as it did. -/
def poolRanksUptoRow : OpenClaim := { program := "ytphmjdbdhhbdoaa", sum := "909081cb76a5b31b10f7042f94585d48757bbca5f75e173d9e7354db7fe117de", func := "sandtable/sandtablelaw21.PoolRanks", spec := "poolRanks", inPlace := ["slices.overlaps[sandtable/ranked.entry[string, bool]]"], unfollowed := true, recurses := true, apart := false, narrowed := true }
def PoolRanksUptoSaid : Prop := poolRanksUptoRow.holds Try.pinned (OpenSpec.upto poolRanksSpec)

/-- 'sandtablelaw21.PoolCuts', WHERE WHAT IT READS IS OF BULK AT MOST 1048576: true; the input reads as it did. -/
def poolCutsUptoRow : OpenClaim := { program := "ytphmjdbdhhbdoaa", sum := "909081cb76a5b31b10f7042f94585d48757bbca5f75e173d9e7354db7fe117de", func := "sandtable/sandtablelaw21.PoolCuts", spec := "poolCuts", inPlace := ["slices.overlaps[sandtable/ranked.entry[string, bool]]"], unfollowed := true, recurses := true, apart := false, narrowed := true }
def PoolCutsUptoSaid : Prop := poolCutsUptoRow.holds Try.pinned (OpenSpec.upto poolCutsSpec)

/-- 'sandtablelaw21.PoolBack', WHERE WHAT IT READS IS OF BULK AT MOST 1048576: true; the input reads as it did. -/
def poolBackUptoRow : OpenClaim := { program := "ytphmjdbdhhbdoaa", sum := "909081cb76a5b31b10f7042f94585d48757bbca5f75e173d9e7354db7fe117de", func := "sandtable/sandtablelaw21.PoolBack", spec := "poolBack", inPlace := ["slices.overlaps[sandtable/ranked.entry[string, bool]]"], unfollowed := true, recurses := true, apart := false, narrowed := true }
def PoolBackUptoSaid : Prop := poolBackUptoRow.holds Try.pinned (OpenSpec.upto poolBackSpec)

end Rows
end Go.Proofs.Ytphmjdbdhhbdoaa
