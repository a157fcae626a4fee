/-
  No cell of these rows narrows 'for every input' (looked for: loops, veiled, ifaces, maps, wideKeys, modest, calm, conditions, laid).
  DERIVED. THE GIVEN ROWS OF THIS SEAT. 18 by the template 'for every input the law returns true; each argument reads behind the call as it read before'; 0 by the template 'total and deterministic' (their statements: YtmmhpejnfkienaaTotals.lean).
  GIVEN WITH THE SEED: the statements are not yours to turn. If you find one false, say at which input.
  Laid BY PROGRAM, IN A SANDBOX (cutbox-rows.mjs): the forced cells as the released guide's own fill.sh prints them over the translation 65dc1c3f6658171e… (all of the seat's roots in one cut). By AI agents, Wed Nov 11 2026. No macro, syntax, notation, axiom, sorry.
-/
import Derived.Test.YtmmhpejnfkienaaChecked
import GoSem.Claim
import GoSem.ClaimJoined
import GoSem.ClaimMapViews
import Derived.JoinedTies
import Derived.KernelRfl
namespace Go.Proofs.Ytmmhpejnfkienaa
/- THE CELL 'sum', in the pinned program and in every row, IS THE sha256 OF THE DUMP (.gsa) THAT YtmmhpejnfkienaaProg.lean LOADS. Nothing in Lean hashes anything: it is a label: what it is worth is what the hold of that sum in a sandbox is worth. -/
noncomputable def Try.pinned : Pinned := { name := "ytmmhpejnfkienaa", sum := "65dc1c3f6658171eda8aa6d2b69e715c776d9a0d3f819c2f3c3f8e0c2d08c671", checked := Try.checked }
namespace Rows
def none {H : Type} : Left H := { results := [], args := [] }

/-- 'bosketlaw4.SignTells': WHATEVER THE INPUT: true; the input reads as it did. -/
def signTellsSpec : ChangeSpec := { name := "signTells", fn := fun _ => fun
  | [d1, d2, d3] => { results := [.lit (.bool true)], args := [d1, d2, d3] }
  | _ => none }
def signTellsRow : OpenClaim := { program := "ytmmhpejnfkienaa", sum := "65dc1c3f6658171eda8aa6d2b69e715c776d9a0d3f819c2f3c3f8e0c2d08c671", func := "bosket/bosketlaw4.SignTells", spec := "signTells", apart := false }
def SignTellsSaid : Prop := signTellsRow.holds Try.pinned (OpenSpec.ofChange signTellsSpec)

/-- ITS FALSE NEIGHBOUR: 'it returns false'. Refute it at one input. -/
def signTellsWrong : ChangeSpec := { name := "signTells", fn := fun _ => fun
  | [d1, d2, d3] => { results := [.lit (.bool false)], args := [d1, d2, d3] }
  | _ => none }
def SignTellsWrongFalsely : Prop := signTellsRow.holds Try.pinned (OpenSpec.ofChange signTellsWrong)

/-- 'bosketlaw4.SignParts': WHATEVER THE INPUT: true; the input reads as it did. -/
def signPartsSpec : ChangeSpec := { name := "signParts", fn := fun _ => fun
  | [d] => { results := [.lit (.bool true)], args := [d] }
  | _ => none }
def signPartsRow : OpenClaim := { program := "ytmmhpejnfkienaa", sum := "65dc1c3f6658171eda8aa6d2b69e715c776d9a0d3f819c2f3c3f8e0c2d08c671", func := "bosket/bosketlaw4.SignParts", spec := "signParts", apart := false }
def SignPartsSaid : Prop := signPartsRow.holds Try.pinned (OpenSpec.ofChange signPartsSpec)

/-- ITS FALSE NEIGHBOUR: 'it returns false'. Refute it at one input. -/
def signPartsWrong : ChangeSpec := { name := "signParts", fn := fun _ => fun
  | [d] => { results := [.lit (.bool false)], args := [d] }
  | _ => none }
def SignPartsWrongFalsely : Prop := signPartsRow.holds Try.pinned (OpenSpec.ofChange signPartsWrong)

/-- 'bosketlaw4.SignNames': WHATEVER THE INPUT: true; the input reads as it did. -/
def signNamesSpec : ChangeSpec := { name := "signNames", fn := fun _ => fun
  | [d1, d2, d3] => { results := [.lit (.bool true)], args := [d1, d2, d3] }
  | _ => none }
def signNamesRow : OpenClaim := { program := "ytmmhpejnfkienaa", sum := "65dc1c3f6658171eda8aa6d2b69e715c776d9a0d3f819c2f3c3f8e0c2d08c671", func := "bosket/bosketlaw4.SignNames", spec := "signNames", apart := false }
def SignNamesSaid : Prop := signNamesRow.holds Try.pinned (OpenSpec.ofChange signNamesSpec)

/-- ITS FALSE NEIGHBOUR: 'it returns false'. Refute it at one input. -/
def signNamesWrong : ChangeSpec := { name := "signNames", fn := fun _ => fun
  | [d1, d2, d3] => { results := [.lit (.bool false)], args := [d1, d2, d3] }
  | _ => none }
def SignNamesWrongFalsely : Prop := signNamesRow.holds Try.pinned (OpenSpec.ofChange signNamesWrong)

/-- 'bosketlaw7.RowsTells': WHATEVER THE INPUT: true; the input reads as it did. -/
def rowsTellsSpec : ChangeSpec := { name := "rowsTells", fn := fun _ => fun
  | [d1, d2] => { results := [.lit (.bool true)], args := [d1, d2] }
  | _ => none }
def rowsTellsRow : OpenClaim := { program := "ytmmhpejnfkienaa", sum := "65dc1c3f6658171eda8aa6d2b69e715c776d9a0d3f819c2f3c3f8e0c2d08c671", func := "bosket/bosketlaw7.RowsTells", spec := "rowsTells", inPlace := ["internal/bytealg.IndexByteString"], apart := false }
def RowsTellsSaid : Prop := rowsTellsRow.holds Try.pinned (OpenSpec.ofChange rowsTellsSpec)

/-- ITS FALSE NEIGHBOUR: 'it returns false'. Refute it at one input. -/
def rowsTellsWrong : ChangeSpec := { name := "rowsTells", fn := fun _ => fun
  | [d1, d2] => { results := [.lit (.bool false)], args := [d1, d2] }
  | _ => none }
def RowsTellsWrongFalsely : Prop := rowsTellsRow.holds Try.pinned (OpenSpec.ofChange rowsTellsWrong)

/-- 'bosketlaw7.RowsParts': WHATEVER THE INPUT: true; the input reads as it did. -/
def rowsPartsSpec : ChangeSpec := { name := "rowsParts", fn := fun _ => fun
  | [d] => { results := [.lit (.bool true)], args := [d] }
  | _ => none }
def rowsPartsRow : OpenClaim := { program := "ytmmhpejnfkienaa", sum := "65dc1c3f6658171eda8aa6d2b69e715c776d9a0d3f819c2f3c3f8e0c2d08c671", func := "bosket/bosketlaw7.RowsParts", spec := "rowsParts", inPlace := ["internal/bytealg.IndexByteString"], apart := false }
def RowsPartsSaid : Prop := rowsPartsRow.holds Try.pinned (OpenSpec.ofChange rowsPartsSpec)

/-- ITS FALSE NEIGHBOUR: 'it returns false'. Refute it at one input. -/
def rowsPartsWrong : ChangeSpec := { name := "rowsParts", fn := fun _ => fun
  | [d] => { results := [.lit (.bool false)], args := [d] }
  | _ => none }
def RowsPartsWrongFalsely : Prop := rowsPartsRow.holds Try.pinned (OpenSpec.ofChange rowsPartsWrong)

/-- 'bosketlaw7.RowsKinds': WHATEVER THE INPUT: true; the input reads as it did. -/
def rowsKindsSpec : ChangeSpec := { name := "rowsKinds", fn := fun _ => fun
  | [d1, d2, d3] => { results := [.lit (.bool true)], args := [d1, d2, d3] }
  | _ => none }
def rowsKindsRow : OpenClaim := { program := "ytmmhpejnfkienaa", sum := "65dc1c3f6658171eda8aa6d2b69e715c776d9a0d3f819c2f3c3f8e0c2d08c671", func := "bosket/bosketlaw7.RowsKinds", spec := "rowsKinds", inPlace := ["internal/bytealg.IndexByteString"], apart := false }
def RowsKindsSaid : Prop := rowsKindsRow.holds Try.pinned (OpenSpec.ofChange rowsKindsSpec)

/-- ITS FALSE NEIGHBOUR: 'it returns false'. Refute it at one input. -/
def rowsKindsWrong : ChangeSpec := { name := "rowsKinds", fn := fun _ => fun
  | [d1, d2, d3] => { results := [.lit (.bool false)], args := [d1, d2, d3] }
  | _ => none }
def RowsKindsWrongFalsely : Prop := rowsKindsRow.holds Try.pinned (OpenSpec.ofChange rowsKindsWrong)

/-- 'bosketlaw7.RowsAbove': WHATEVER THE INPUT: true; the input reads as it did. -/
def rowsAboveSpec : ChangeSpec := { name := "rowsAbove", fn := fun _ => fun
  | [d1, d2, d3, d4] => { results := [.lit (.bool true)], args := [d1, d2, d3, d4] }
  | _ => none }
def rowsAboveRow : OpenClaim := { program := "ytmmhpejnfkienaa", sum := "65dc1c3f6658171eda8aa6d2b69e715c776d9a0d3f819c2f3c3f8e0c2d08c671", func := "bosket/bosketlaw7.RowsAbove", spec := "rowsAbove", inPlace := ["internal/bytealg.IndexByteString"], apart := false }
def RowsAboveSaid : Prop := rowsAboveRow.holds Try.pinned (OpenSpec.ofChange rowsAboveSpec)

/-- ITS FALSE NEIGHBOUR: 'it returns false'. Refute it at one input. -/
def rowsAboveWrong : ChangeSpec := { name := "rowsAbove", fn := fun _ => fun
  | [d1, d2, d3, d4] => { results := [.lit (.bool false)], args := [d1, d2, d3, d4] }
  | _ => none }
def RowsAboveWrongFalsely : Prop := rowsAboveRow.holds Try.pinned (OpenSpec.ofChange rowsAboveWrong)

/-- 'bosketlaw14.PropTells': WHATEVER THE INPUT: true; the input reads as it did. -/
def propTellsSpec : ChangeSpec := { name := "propTells", fn := fun _ => fun
  | [d1, d2, d3, d4] => { results := [.lit (.bool true)], args := [d1, d2, d3, d4] }
  | _ => none }
def propTellsRow : OpenClaim := { program := "ytmmhpejnfkienaa", sum := "65dc1c3f6658171eda8aa6d2b69e715c776d9a0d3f819c2f3c3f8e0c2d08c671", func := "bosket/bosketlaw14.PropTells", spec := "propTells", apart := false }
def PropTellsSaid : Prop := propTellsRow.holds Try.pinned (OpenSpec.ofChange propTellsSpec)

/-- ITS FALSE NEIGHBOUR: 'it returns false'. Refute it at one input. -/
def propTellsWrong : ChangeSpec := { name := "propTells", fn := fun _ => fun
  | [d1, d2, d3, d4] => { results := [.lit (.bool false)], args := [d1, d2, d3, d4] }
  | _ => none }
def PropTellsWrongFalsely : Prop := propTellsRow.holds Try.pinned (OpenSpec.ofChange propTellsWrong)

/-- 'bosketlaw14.PropBoth': WHATEVER THE INPUT: true; the input reads as it did. -/
def propBothSpec : ChangeSpec := { name := "propBoth", fn := fun _ => fun
  | [d1, d2, d3, d4, d5, d6, d7] => { results := [.lit (.bool true)], args := [d1, d2, d3, d4, d5, d6, d7] }
  | _ => none }
def propBothRow : OpenClaim := { program := "ytmmhpejnfkienaa", sum := "65dc1c3f6658171eda8aa6d2b69e715c776d9a0d3f819c2f3c3f8e0c2d08c671", func := "bosket/bosketlaw14.PropBoth", spec := "propBoth", apart := false }
def PropBothSaid : Prop := propBothRow.holds Try.pinned (OpenSpec.ofChange propBothSpec)

/-- ITS FALSE NEIGHBOUR: 'it returns false'. Refute it at one input. -/
def propBothWrong : ChangeSpec := { name := "propBoth", fn := fun _ => fun
  | [d1, d2, d3, d4, d5, d6, d7] => { results := [.lit (.bool false)], args := [d1, d2, d3, d4, d5, d6, d7] }
  | _ => none }
def PropBothWrongFalsely : Prop := propBothRow.holds Try.pinned (OpenSpec.ofChange propBothWrong)

/-- 'bosketlaw14.PropNames': WHATEVER THE INPUT: true; the input reads as it did. -/
def propNamesSpec : ChangeSpec := { name := "propNames", fn := fun _ => fun
  | [d1, d2] => { results := [.lit (.bool true)], args := [d1, d2] }
  | _ => none }
def propNamesRow : OpenClaim := { program := "ytmmhpejnfkienaa", sum := "65dc1c3f6658171eda8aa6d2b69e715c776d9a0d3f819c2f3c3f8e0c2d08c671", func := "bosket/bosketlaw14.PropNames", spec := "propNames", apart := false }
def PropNamesSaid : Prop := propNamesRow.holds Try.pinned (OpenSpec.ofChange propNamesSpec)

/-- ITS FALSE NEIGHBOUR: 'it returns false'. Refute it at one input. -/
def propNamesWrong : ChangeSpec := { name := "propNames", fn := fun _ => fun
  | [d1, d2] => { results := [.lit (.bool false)], args := [d1, d2] }
  | _ => none }
def PropNamesWrongFalsely : Prop := propNamesRow.holds Try.pinned (OpenSpec.ofChange propNamesWrong)

/-- 'bosketlaw6.FoldTells': WHATEVER THE INPUT: true; the input reads as it did. -/
def foldTellsSpec : ChangeSpec := { name := "foldTells", fn := fun _ => fun
  | [d1, d2] => { results := [.lit (.bool true)], args := [d1, d2] }
  | _ => none }
def foldTellsRow : OpenClaim := { program := "ytmmhpejnfkienaa", sum := "65dc1c3f6658171eda8aa6d2b69e715c776d9a0d3f819c2f3c3f8e0c2d08c671", func := "bosket/bosketlaw6.FoldTells", spec := "foldTells", inPlace := ["internal/abi.NoEscape", "internal/bytealg.MakeNoZero"], apart := false }
def FoldTellsSaid : Prop := foldTellsRow.holds Try.pinned (OpenSpec.ofChange foldTellsSpec)

/-- ITS FALSE NEIGHBOUR: 'it returns false'. Refute it at one input. -/
def foldTellsWrong : ChangeSpec := { name := "foldTells", fn := fun _ => fun
  | [d1, d2] => { results := [.lit (.bool false)], args := [d1, d2] }
  | _ => none }
def FoldTellsWrongFalsely : Prop := foldTellsRow.holds Try.pinned (OpenSpec.ofChange foldTellsWrong)

/-- 'bosketlaw6.FoldWords': WHATEVER THE INPUT: true; the input reads as it did. -/
def foldWordsSpec : ChangeSpec := { name := "foldWords", fn := fun _ => fun
  | [d1, d2] => { results := [.lit (.bool true)], args := [d1, d2] }
  | _ => none }
def foldWordsRow : OpenClaim := { program := "ytmmhpejnfkienaa", sum := "65dc1c3f6658171eda8aa6d2b69e715c776d9a0d3f819c2f3c3f8e0c2d08c671", func := "bosket/bosketlaw6.FoldWords", spec := "foldWords", inPlace := ["internal/abi.NoEscape", "internal/bytealg.MakeNoZero"], apart := false }
def FoldWordsSaid : Prop := foldWordsRow.holds Try.pinned (OpenSpec.ofChange foldWordsSpec)

/-- ITS FALSE NEIGHBOUR: 'it returns false'. Refute it at one input. -/
def foldWordsWrong : ChangeSpec := { name := "foldWords", fn := fun _ => fun
  | [d1, d2] => { results := [.lit (.bool false)], args := [d1, d2] }
  | _ => none }
def FoldWordsWrongFalsely : Prop := foldWordsRow.holds Try.pinned (OpenSpec.ofChange foldWordsWrong)

/-- 'bosketlaw6.FoldKeeps': WHATEVER THE INPUT: true; the input reads as it did. -/
def foldKeepsSpec : ChangeSpec := { name := "foldKeeps", fn := fun _ => fun
  | [d1, d2] => { results := [.lit (.bool true)], args := [d1, d2] }
  | _ => none }
def foldKeepsRow : OpenClaim := { program := "ytmmhpejnfkienaa", sum := "65dc1c3f6658171eda8aa6d2b69e715c776d9a0d3f819c2f3c3f8e0c2d08c671", func := "bosket/bosketlaw6.FoldKeeps", spec := "foldKeeps", inPlace := ["internal/abi.NoEscape", "internal/bytealg.MakeNoZero"], apart := false }
def FoldKeepsSaid : Prop := foldKeepsRow.holds Try.pinned (OpenSpec.ofChange foldKeepsSpec)

/-- ITS FALSE NEIGHBOUR: 'it returns false'. Refute it at one input. -/
def foldKeepsWrong : ChangeSpec := { name := "foldKeeps", fn := fun _ => fun
  | [d1, d2] => { results := [.lit (.bool false)], args := [d1, d2] }
  | _ => none }
def FoldKeepsWrongFalsely : Prop := foldKeepsRow.holds Try.pinned (OpenSpec.ofChange foldKeepsWrong)

/-- 'bosketlaw6.FoldOne': WHATEVER THE INPUT: true; the input reads as it did. -/
def foldOneSpec : ChangeSpec := { name := "foldOne", fn := fun _ => fun
  | [d1, d2, d3] => { results := [.lit (.bool true)], args := [d1, d2, d3] }
  | _ => none }
def foldOneRow : OpenClaim := { program := "ytmmhpejnfkienaa", sum := "65dc1c3f6658171eda8aa6d2b69e715c776d9a0d3f819c2f3c3f8e0c2d08c671", func := "bosket/bosketlaw6.FoldOne", spec := "foldOne", inPlace := ["internal/abi.NoEscape", "internal/bytealg.MakeNoZero"], apart := false }
def FoldOneSaid : Prop := foldOneRow.holds Try.pinned (OpenSpec.ofChange foldOneSpec)

/-- ITS FALSE NEIGHBOUR: 'it returns false'. Refute it at one input. -/
def foldOneWrong : ChangeSpec := { name := "foldOne", fn := fun _ => fun
  | [d1, d2, d3] => { results := [.lit (.bool false)], args := [d1, d2, d3] }
  | _ => none }
def FoldOneWrongFalsely : Prop := foldOneRow.holds Try.pinned (OpenSpec.ofChange foldOneWrong)

/-- 'bosketlaw11.PlaiMade': WHATEVER THE INPUT: true; the input reads as it did. -/
def plaiMadeSpec : ChangeSpec := { name := "plaiMade", fn := fun _ => fun
  | [d1, d2, d3] => { results := [.lit (.bool true)], args := [d1, d2, d3] }
  | _ => none }
def plaiMadeRow : OpenClaim := { program := "ytmmhpejnfkienaa", sum := "65dc1c3f6658171eda8aa6d2b69e715c776d9a0d3f819c2f3c3f8e0c2d08c671", func := "bosket/bosketlaw11.PlaiMade", spec := "plaiMade", inPlace := ["internal/bytealg.IndexByteString", "internal/abi.NoEscape", "internal/bytealg.MakeNoZero"], apart := false }
def PlaiMadeSaid : Prop := plaiMadeRow.holds Try.pinned (OpenSpec.ofChange plaiMadeSpec)

/-- ITS FALSE NEIGHBOUR: 'it returns false'. Refute it at one input. -/
def plaiMadeWrong : ChangeSpec := { name := "plaiMade", fn := fun _ => fun
  | [d1, d2, d3] => { results := [.lit (.bool false)], args := [d1, d2, d3] }
  | _ => none }
def PlaiMadeWrongFalsely : Prop := plaiMadeRow.holds Try.pinned (OpenSpec.ofChange plaiMadeWrong)

/-- 'bosketlaw11.PlaiWords': WHATEVER THE INPUT: true; the input reads as it did. -/
def plaiWordsSpec : ChangeSpec := { name := "plaiWords", fn := fun _ => fun
  | [d1, d2, d3, d4] => { results := [.lit (.bool true)], args := [d1, d2, d3, d4] }
  | _ => none }
def plaiWordsRow : OpenClaim := { program := "ytmmhpejnfkienaa", sum := "65dc1c3f6658171eda8aa6d2b69e715c776d9a0d3f819c2f3c3f8e0c2d08c671", func := "bosket/bosketlaw11.PlaiWords", spec := "plaiWords", inPlace := ["internal/bytealg.IndexByteString", "internal/abi.NoEscape", "internal/bytealg.MakeNoZero"], apart := false }
def PlaiWordsSaid : Prop := plaiWordsRow.holds Try.pinned (OpenSpec.ofChange plaiWordsSpec)

/-- ITS FALSE NEIGHBOUR: 'it returns false'. Refute it at one input. -/
def plaiWordsWrong : ChangeSpec := { name := "plaiWords", fn := fun _ => fun
  | [d1, d2, d3, d4] => { results := [.lit (.bool false)], args := [d1, d2, d3, d4] }
  | _ => none }
def PlaiWordsWrongFalsely : Prop := plaiWordsRow.holds Try.pinned (OpenSpec.ofChange plaiWordsWrong)

/-- 'bosketlaw11.PlaiEnds': WHATEVER THE INPUT: true; the input reads as it did. -/
def plaiEndsSpec : ChangeSpec := { name := "plaiEnds", fn := fun _ => fun
  | [d1, d2, d3, d4] => { results := [.lit (.bool true)], args := [d1, d2, d3, d4] }
  | _ => none }
def plaiEndsRow : OpenClaim := { program := "ytmmhpejnfkienaa", sum := "65dc1c3f6658171eda8aa6d2b69e715c776d9a0d3f819c2f3c3f8e0c2d08c671", func := "bosket/bosketlaw11.PlaiEnds", spec := "plaiEnds", inPlace := ["internal/bytealg.IndexByteString", "internal/abi.NoEscape", "internal/bytealg.MakeNoZero"], apart := false }
def PlaiEndsSaid : Prop := plaiEndsRow.holds Try.pinned (OpenSpec.ofChange plaiEndsSpec)

/-- ITS FALSE NEIGHBOUR: 'it returns false'. Refute it at one input. -/
def plaiEndsWrong : ChangeSpec := { name := "plaiEnds", fn := fun _ => fun
  | [d1, d2, d3, d4] => { results := [.lit (.bool false)], args := [d1, d2, d3, d4] }
  | _ => none }
def PlaiEndsWrongFalsely : Prop := plaiEndsRow.holds Try.pinned (OpenSpec.ofChange plaiEndsWrong)

/-- 'bosketlaw11.PlaiSigns': WHATEVER THE INPUT: true; the input reads as it did. -/
def plaiSignsSpec : ChangeSpec := { name := "plaiSigns", fn := fun _ => fun
  | [d1, d2] => { results := [.lit (.bool true)], args := [d1, d2] }
  | _ => none }
def plaiSignsRow : OpenClaim := { program := "ytmmhpejnfkienaa", sum := "65dc1c3f6658171eda8aa6d2b69e715c776d9a0d3f819c2f3c3f8e0c2d08c671", func := "bosket/bosketlaw11.PlaiSigns", spec := "plaiSigns", inPlace := ["internal/bytealg.IndexByteString", "internal/abi.NoEscape", "internal/bytealg.MakeNoZero"], apart := false }
def PlaiSignsSaid : Prop := plaiSignsRow.holds Try.pinned (OpenSpec.ofChange plaiSignsSpec)

/-- ITS FALSE NEIGHBOUR: 'it returns false'. Refute it at one input. -/
def plaiSignsWrong : ChangeSpec := { name := "plaiSigns", fn := fun _ => fun
  | [d1, d2] => { results := [.lit (.bool false)], args := [d1, d2] }
  | _ => none }
def PlaiSignsWrongFalsely : Prop := plaiSignsRow.holds Try.pinned (OpenSpec.ofChange plaiSignsWrong)

/- THE SECOND FORM. 'bulk': how many values and letters a reading holds, each counted each time it is reached (what is shared counts as often as it is met; a slice's spare places count too). A statement '..UptoSaid' is the law's where the arguments, and the package variables that the reading takes, are together of bulk at most 1048576: NARROWER than '..Said'. Prove '..Said' where nothing that the law and all that it calls make is longer than what came in: it says more and counts as full. Else prove '..UptoSaid'. A law counts once. -/
mutual
def uptoBulk {H : Type} : DataW H → Nat
  | .lit (.string bytes) => bytes.length + 1
  | .lit _ => 1
  | .nil => 1
  | .ptr d => uptoBulk d + 1
  | .slice elems spare => uptoBulkAll elems + uptoBulkAll spare + 1
  | .agg parts => uptoBulkAll parts + 1
  | .iface _ d => uptoBulk d + 1
  | .map entries => uptoBulkEntries entries + 1
  | .held _ => 1
def uptoBulkAll {H : Type} : List (DataW H) → Nat
  | [] => 0
  | d :: r => uptoBulk d + uptoBulkAll r
def uptoBulkEntries {H : Type} : List (Lit × DataW H) → Nat
  | [] => 0
  | x :: r => uptoBulkEntry x + uptoBulkEntries r
def uptoBulkEntry {H : Type} : Lit × DataW H → Nat
  | (.string bytes, d) => bytes.length + uptoBulk d + 1
  | (_, d) => uptoBulk d + 1
 end
def uptoSmall : (H : Type) → List (DataW H) → Bool := fun _ ds => decide (uptoBulkAll ds ≤ 1048576)
def OpenSpec.upto (s : _root_.Go.ChangeSpec) : _root_.Go.OpenSpec := { _root_.Go.OpenSpec.ofChange s with cond := some uptoSmall }

/-- 'bosketlaw4.SignTells', WHERE WHAT IT READS IS OF BULK AT MOST 1048576: true; the input reads as it did. -/
def signTellsUptoRow : OpenClaim := { program := "ytmmhpejnfkienaa", sum := "65dc1c3f6658171eda8aa6d2b69e715c776d9a0d3f819c2f3c3f8e0c2d08c671", func := "bosket/bosketlaw4.SignTells", spec := "signTells", apart := false, narrowed := true }
def SignTellsUptoSaid : Prop := signTellsUptoRow.holds Try.pinned (OpenSpec.upto signTellsSpec)

/-- 'bosketlaw4.SignParts', WHERE WHAT IT READS IS OF BULK AT MOST 1048576: true; the input reads as it did. -/
def signPartsUptoRow : OpenClaim := { program := "ytmmhpejnfkienaa", sum := "65dc1c3f6658171eda8aa6d2b69e715c776d9a0d3f819c2f3c3f8e0c2d08c671", func := "bosket/bosketlaw4.SignParts", spec := "signParts", apart := false, narrowed := true }
def SignPartsUptoSaid : Prop := signPartsUptoRow.holds Try.pinned (OpenSpec.upto signPartsSpec)

/-- 'bosketlaw4.SignNames', WHERE WHAT IT READS IS OF BULK AT MOST 1048576: true; the input reads as it did. -/
def signNamesUptoRow : OpenClaim := { program := "ytmmhpejnfkienaa", sum := "65dc1c3f6658171eda8aa6d2b69e715c776d9a0d3f819c2f3c3f8e0c2d08c671", func := "bosket/bosketlaw4.SignNames", spec := "signNames", apart := false, narrowed := true }
def SignNamesUptoSaid : Prop := signNamesUptoRow.holds Try.pinned (OpenSpec.upto signNamesSpec)

/-- 'bosketlaw7.RowsTells', WHERE WHAT IT READS IS OF BULK AT MOST 1048576: true; the input reads as it did. -/
def rowsTellsUptoRow : OpenClaim := { program := "ytmmhpejnfkienaa", sum := "65dc1c3f6658171eda8aa6d2b69e715c776d9a0d3f819c2f3c3f8e0c2d08c671", func := "bosket/bosketlaw7.RowsTells", spec := "rowsTells", inPlace := ["internal/bytealg.IndexByteString"], apart := false, narrowed := true }
def RowsTellsUptoSaid : Prop := rowsTellsUptoRow.holds Try.pinned (OpenSpec.upto rowsTellsSpec)

/-- 'bosketlaw7.RowsParts', WHERE WHAT IT READS IS OF BULK AT MOST 1048576: true; the input reads as it did. -/
def rowsPartsUptoRow : OpenClaim := { program := "ytmmhpejnfkienaa", sum := "65dc1c3f6658171eda8aa6d2b69e715c776d9a0d3f819c2f3c3f8e0c2d08c671", func := "bosket/bosketlaw7.RowsParts", spec := "rowsParts", inPlace := ["internal/bytealg.IndexByteString"], apart := false, narrowed := true }
def RowsPartsUptoSaid : Prop := rowsPartsUptoRow.holds Try.pinned (OpenSpec.upto rowsPartsSpec)

/-- 'bosketlaw7.RowsKinds', WHERE WHAT IT READS IS OF BULK AT MOST 1048576: true; the input reads as it did. -/
def rowsKindsUptoRow : OpenClaim := { program := "ytmmhpejnfkienaa", sum := "65dc1c3f6658171eda8aa6d2b69e715c776d9a0d3f819c2f3c3f8e0c2d08c671", func := "bosket/bosketlaw7.RowsKinds", spec := "rowsKinds", inPlace := ["internal/bytealg.IndexByteString"], apart := false, narrowed := true }
def RowsKindsUptoSaid : Prop := rowsKindsUptoRow.holds Try.pinned (OpenSpec.upto rowsKindsSpec)

/-- 'bosketlaw7.RowsAbove', WHERE WHAT IT READS IS OF BULK AT MOST 1048576: true; the input reads as it did. -/
def rowsAboveUptoRow : OpenClaim := { program := "ytmmhpejnfkienaa", sum := "65dc1c3f6658171eda8aa6d2b69e715c776d9a0d3f819c2f3c3f8e0c2d08c671", func := "bosket/bosketlaw7.RowsAbove", spec := "rowsAbove", inPlace := ["internal/bytealg.IndexByteString"], apart := false, narrowed := true }
def RowsAboveUptoSaid : Prop := rowsAboveUptoRow.holds Try.pinned (OpenSpec.upto rowsAboveSpec)

/-- 'bosketlaw14.PropTells', WHERE WHAT IT READS IS OF BULK AT MOST 1048576: true; the input reads as it did. -/
def propTellsUptoRow : OpenClaim := { program := "ytmmhpejnfkienaa", sum := "65dc1c3f6658171eda8aa6d2b69e715c776d9a0d3f819c2f3c3f8e0c2d08c671", func := "bosket/bosketlaw14.PropTells", spec := "propTells", apart := false, narrowed := true }
def PropTellsUptoSaid : Prop := propTellsUptoRow.holds Try.pinned (OpenSpec.upto propTellsSpec)

/-- 'bosketlaw14.PropBoth', WHERE WHAT IT READS IS OF BULK AT MOST 1048576: true; the input reads as it did. -/
def propBothUptoRow : OpenClaim := { program := "ytmmhpejnfkienaa", sum := "65dc1c3f6658171eda8aa6d2b69e715c776d9a0d3f819c2f3c3f8e0c2d08c671", func := "bosket/bosketlaw14.PropBoth", spec := "propBoth", apart := false, narrowed := true }
def PropBothUptoSaid : Prop := propBothUptoRow.holds Try.pinned (OpenSpec.upto propBothSpec)

/-- 'bosketlaw14.PropNames', WHERE WHAT IT READS IS OF BULK AT MOST 1048576: true; the input reads as it did. -/
def propNamesUptoRow : OpenClaim := { program := "ytmmhpejnfkienaa", sum := "65dc1c3f6658171eda8aa6d2b69e715c776d9a0d3f819c2f3c3f8e0c2d08c671", func := "bosket/bosketlaw14.PropNames", spec := "propNames", apart := false, narrowed := true }
def PropNamesUptoSaid : Prop := propNamesUptoRow.holds Try.pinned (OpenSpec.upto propNamesSpec)

/-- 'bosketlaw6.FoldTells', WHERE WHAT IT READS IS OF BULK AT MOST 1048576: true; the input reads as it did. -/
def foldTellsUptoRow : OpenClaim := { program := "ytmmhpejnfkienaa", sum := "65dc1c3f6658171eda8aa6d2b69e715c776d9a0d3f819c2f3c3f8e0c2d08c671", func := "bosket/bosketlaw6.FoldTells", spec := "foldTells", inPlace := ["internal/abi.NoEscape", "internal/bytealg.MakeNoZero"], apart := false, narrowed := true }
def FoldTellsUptoSaid : Prop := foldTellsUptoRow.holds Try.pinned (OpenSpec.upto foldTellsSpec)

/-- 'bosketlaw6.FoldWords', WHERE WHAT IT READS IS OF BULK AT MOST 1048576: true; the input reads as it did. -/
def foldWordsUptoRow : OpenClaim := { program := "ytmmhpejnfkienaa", sum := "65dc1c3f6658171eda8aa6d2b69e715c776d9a0d3f819c2f3c3f8e0c2d08c671", func := "bosket/bosketlaw6.FoldWords", spec := "foldWords", inPlace := ["internal/abi.NoEscape", "internal/bytealg.MakeNoZero"], apart := false, narrowed := true }
def FoldWordsUptoSaid : Prop := foldWordsUptoRow.holds Try.pinned (OpenSpec.upto foldWordsSpec)

/-- 'bosketlaw6.FoldKeeps', WHERE WHAT IT READS IS OF BULK AT MOST 1048576: true; the input reads as it did. -/
def foldKeepsUptoRow : OpenClaim := { program := "ytmmhpejnfkienaa", sum := "65dc1c3f6658171eda8aa6d2b69e715c776d9a0d3f819c2f3c3f8e0c2d08c671", func := "bosket/bosketlaw6.FoldKeeps", spec := "foldKeeps", inPlace := ["internal/abi.NoEscape", "internal/bytealg.MakeNoZero"], apart := false, narrowed := true }
def FoldKeepsUptoSaid : Prop := foldKeepsUptoRow.holds Try.pinned (OpenSpec.upto foldKeepsSpec)

/-- 'bosketlaw6.FoldOne', WHERE WHAT IT READS IS OF BULK AT MOST 1048576: true; the input reads as it did. -/
def foldOneUptoRow : OpenClaim := { program := "ytmmhpejnfkienaa", sum := "65dc1c3f6658171eda8aa6d2b69e715c776d9a0d3f819c2f3c3f8e0c2d08c671", func := "bosket/bosketlaw6.FoldOne", spec := "foldOne", inPlace := ["internal/abi.NoEscape", "internal/bytealg.MakeNoZero"], apart := false, narrowed := true }
def FoldOneUptoSaid : Prop := foldOneUptoRow.holds Try.pinned (OpenSpec.upto foldOneSpec)

/-- 'bosketlaw11.PlaiMade', WHERE WHAT IT READS IS OF BULK AT MOST 1048576: true; the input reads as it did. -/
def plaiMadeUptoRow : OpenClaim := { program := "ytmmhpejnfkienaa", sum := "65dc1c3f6658171eda8aa6d2b69e715c776d9a0d3f819c2f3c3f8e0c2d08c671", func := "bosket/bosketlaw11.PlaiMade", spec := "plaiMade", inPlace := ["internal/bytealg.IndexByteString", "internal/abi.NoEscape", "internal/bytealg.MakeNoZero"], apart := false, narrowed := true }
def PlaiMadeUptoSaid : Prop := plaiMadeUptoRow.holds Try.pinned (OpenSpec.upto plaiMadeSpec)

/-- 'bosketlaw11.PlaiWords', WHERE WHAT IT READS IS OF BULK AT MOST 1048576: true; the input reads as it did. -/
def plaiWordsUptoRow : OpenClaim := { program := "ytmmhpejnfkienaa", sum := "65dc1c3f6658171eda8aa6d2b69e715c776d9a0d3f819c2f3c3f8e0c2d08c671", func := "bosket/bosketlaw11.PlaiWords", spec := "plaiWords", inPlace := ["internal/bytealg.IndexByteString", "internal/abi.NoEscape", "internal/bytealg.MakeNoZero"], apart := false, narrowed := true }
def PlaiWordsUptoSaid : Prop := plaiWordsUptoRow.holds Try.pinned (OpenSpec.upto plaiWordsSpec)

/-- 'bosketlaw11.PlaiEnds', WHERE WHAT IT READS IS OF BULK AT MOST 1048576: true; the input reads as it did. -/
def plaiEndsUptoRow : OpenClaim := { program := "ytmmhpejnfkienaa", sum := "65dc1c3f6658171eda8aa6d2b69e715c776d9a0d3f819c2f3c3f8e0c2d08c671", func := "bosket/bosketlaw11.PlaiEnds", spec := "plaiEnds", inPlace := ["internal/bytealg.IndexByteString", "internal/abi.NoEscape", "internal/bytealg.MakeNoZero"], apart := false, narrowed := true }
def PlaiEndsUptoSaid : Prop := plaiEndsUptoRow.holds Try.pinned (OpenSpec.upto plaiEndsSpec)

/-- 'bosketlaw11.PlaiSigns', WHERE WHAT IT READS IS OF BULK AT MOST 1048576: true; the input reads as it did. -/
def plaiSignsUptoRow : OpenClaim := { program := "ytmmhpejnfkienaa", sum := "65dc1c3f6658171eda8aa6d2b69e715c776d9a0d3f819c2f3c3f8e0c2d08c671", func := "bosket/bosketlaw11.PlaiSigns", spec := "plaiSigns", inPlace := ["internal/bytealg.IndexByteString", "internal/abi.NoEscape", "internal/bytealg.MakeNoZero"], apart := false, narrowed := true }
def PlaiSignsUptoSaid : Prop := plaiSignsUptoRow.holds Try.pinned (OpenSpec.upto plaiSignsSpec)

end Rows
end Go.Proofs.Ytmmhpejnfkienaa
