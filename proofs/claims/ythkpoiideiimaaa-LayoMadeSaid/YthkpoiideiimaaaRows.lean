/-
  No cell of these rows narrows 'for every input' (looked for: loops, veiled, ifaces, maps, wideKeys, modest, calm, conditions, laid).
  DERIVED. THE GIVEN ROWS OF THIS SEAT. 6 by the template 'for every input the law returns true; each argument reads behind the call as it read before'; 0 by the template 'total and deterministic' (their statements: YthkpoiideiimaaaTotals.lean).
  GIVEN WITH THE SEED: the statements are not yours to turn. If you find one false, say at which input.
  Laid BY PROGRAM, IN A SANDBOX (cutbox-rows.mjs): the forced cells as the released guide's own fill.sh prints them over the translation 64f44114a6580b9d… (all of the seat's roots in one cut). By AI agents, Wed Nov 11 2026. No macro, syntax, notation, axiom, sorry.
-/
import Derived.Test.YthkpoiideiimaaaChecked
import GoSem.Claim
import GoSem.ClaimJoined
import GoSem.ClaimMapViews
import Derived.JoinedTies
import Derived.KernelRfl
namespace Go.Proofs.Ythkpoiideiimaaa
/- THE CELL 'sum', in the pinned program and in every row, IS THE sha256 OF THE DUMP (.gsa) THAT YthkpoiideiimaaaProg.lean LOADS. Nothing in Lean hashes anything: it is a label: what it is worth is what the hold of that sum in a sandbox is worth. -/
noncomputable def Try.pinned : Pinned := { name := "ythkpoiideiimaaa", sum := "64f44114a6580b9d85943d53e5614c674e4f7fbeddd26c355adbaf90fbe48f17", checked := Try.checked }
namespace Rows
def none {H : Type} : Left H := { results := [], args := [] }

/-- 'bosketlaw25.LayoMade': WHATEVER THE INPUT: true; the input reads as it did. -/
def layoMadeSpec : ChangeSpec := { name := "layoMade", fn := fun _ => fun
  | [d1, d2] => { results := [.lit (.bool true)], args := [d1, d2] }
  | _ => none }
def layoMadeRow : OpenClaim := { program := "ythkpoiideiimaaa", sum := "64f44114a6580b9d85943d53e5614c674e4f7fbeddd26c355adbaf90fbe48f17", func := "bosket/bosketlaw25.LayoMade", spec := "layoMade", inPlace := ["internal/abi.NoEscape", "internal/bytealg.MakeNoZero"], unfollowed := true, recurses := true, apart := false }
def LayoMadeSaid : Prop := layoMadeRow.holds Try.pinned (OpenSpec.ofChange layoMadeSpec)

/-- ITS FALSE NEIGHBOUR: 'it returns false'. Refute it at one input. -/
def layoMadeWrong : ChangeSpec := { name := "layoMade", fn := fun _ => fun
  | [d1, d2] => { results := [.lit (.bool false)], args := [d1, d2] }
  | _ => none }
def LayoMadeWrongFalsely : Prop := layoMadeRow.holds Try.pinned (OpenSpec.ofChange layoMadeWrong)

/-- 'bosketlaw25.LayoFits': WHATEVER THE INPUT: true; the input reads as it did. -/
def layoFitsSpec : ChangeSpec := { name := "layoFits", fn := fun _ => fun
  | [d1, d2, d3] => { results := [.lit (.bool true)], args := [d1, d2, d3] }
  | _ => none }
def layoFitsRow : OpenClaim := { program := "ythkpoiideiimaaa", sum := "64f44114a6580b9d85943d53e5614c674e4f7fbeddd26c355adbaf90fbe48f17", func := "bosket/bosketlaw25.LayoFits", spec := "layoFits", inPlace := ["internal/abi.NoEscape", "internal/bytealg.MakeNoZero"], unfollowed := true, recurses := true, apart := false }
def LayoFitsSaid : Prop := layoFitsRow.holds Try.pinned (OpenSpec.ofChange layoFitsSpec)

/-- ITS FALSE NEIGHBOUR: 'it returns false'. Refute it at one input. -/
def layoFitsWrong : ChangeSpec := { name := "layoFits", fn := fun _ => fun
  | [d1, d2, d3] => { results := [.lit (.bool false)], args := [d1, d2, d3] }
  | _ => none }
def LayoFitsWrongFalsely : Prop := layoFitsRow.holds Try.pinned (OpenSpec.ofChange layoFitsWrong)

/-- 'bosketlaw25.LayoRows': WHATEVER THE INPUT: true; the input reads as it did. -/
def layoRowsSpec : ChangeSpec := { name := "layoRows", fn := fun _ => fun
  | [d1, d2, d3] => { results := [.lit (.bool true)], args := [d1, d2, d3] }
  | _ => none }
def layoRowsRow : OpenClaim := { program := "ythkpoiideiimaaa", sum := "64f44114a6580b9d85943d53e5614c674e4f7fbeddd26c355adbaf90fbe48f17", func := "bosket/bosketlaw25.LayoRows", spec := "layoRows", inPlace := ["internal/abi.NoEscape", "internal/bytealg.MakeNoZero"], unfollowed := true, recurses := true, apart := false }
def LayoRowsSaid : Prop := layoRowsRow.holds Try.pinned (OpenSpec.ofChange layoRowsSpec)

/-- ITS FALSE NEIGHBOUR: 'it returns false'. Refute it at one input. -/
def layoRowsWrong : ChangeSpec := { name := "layoRows", fn := fun _ => fun
  | [d1, d2, d3] => { results := [.lit (.bool false)], args := [d1, d2, d3] }
  | _ => none }
def LayoRowsWrongFalsely : Prop := layoRowsRow.holds Try.pinned (OpenSpec.ofChange layoRowsWrong)

/-- 'bosketlaw25.LayoGrows': WHATEVER THE INPUT: true; the input reads as it did. -/
def layoGrowsSpec : ChangeSpec := { name := "layoGrows", fn := fun _ => fun
  | [d1, d2, d3] => { results := [.lit (.bool true)], args := [d1, d2, d3] }
  | _ => none }
def layoGrowsRow : OpenClaim := { program := "ythkpoiideiimaaa", sum := "64f44114a6580b9d85943d53e5614c674e4f7fbeddd26c355adbaf90fbe48f17", func := "bosket/bosketlaw25.LayoGrows", spec := "layoGrows", inPlace := ["internal/abi.NoEscape", "internal/bytealg.MakeNoZero"], unfollowed := true, recurses := true, apart := false }
def LayoGrowsSaid : Prop := layoGrowsRow.holds Try.pinned (OpenSpec.ofChange layoGrowsSpec)

/-- ITS FALSE NEIGHBOUR: 'it returns false'. Refute it at one input. -/
def layoGrowsWrong : ChangeSpec := { name := "layoGrows", fn := fun _ => fun
  | [d1, d2, d3] => { results := [.lit (.bool false)], args := [d1, d2, d3] }
  | _ => none }
def LayoGrowsWrongFalsely : Prop := layoGrowsRow.holds Try.pinned (OpenSpec.ofChange layoGrowsWrong)

/-- 'bosketlaw25.LayoNest': WHATEVER THE INPUT: true; the input reads as it did. -/
def layoNestSpec : ChangeSpec := { name := "layoNest", fn := fun _ => fun
  | [d1, d2, d3] => { results := [.lit (.bool true)], args := [d1, d2, d3] }
  | _ => none }
def layoNestRow : OpenClaim := { program := "ythkpoiideiimaaa", sum := "64f44114a6580b9d85943d53e5614c674e4f7fbeddd26c355adbaf90fbe48f17", func := "bosket/bosketlaw25.LayoNest", spec := "layoNest", inPlace := ["internal/abi.NoEscape", "internal/bytealg.MakeNoZero"], unfollowed := true, recurses := true, apart := false }
def LayoNestSaid : Prop := layoNestRow.holds Try.pinned (OpenSpec.ofChange layoNestSpec)

/-- ITS FALSE NEIGHBOUR: 'it returns false'. Refute it at one input. -/
def layoNestWrong : ChangeSpec := { name := "layoNest", fn := fun _ => fun
  | [d1, d2, d3] => { results := [.lit (.bool false)], args := [d1, d2, d3] }
  | _ => none }
def LayoNestWrongFalsely : Prop := layoNestRow.holds Try.pinned (OpenSpec.ofChange layoNestWrong)

/-- 'bosketlaw25.LayoWords': WHATEVER THE INPUT: true; the input reads as it did. -/
def layoWordsSpec : ChangeSpec := { name := "layoWords", fn := fun _ => fun
  | [d1, d2, d3, d4] => { results := [.lit (.bool true)], args := [d1, d2, d3, d4] }
  | _ => none }
def layoWordsRow : OpenClaim := { program := "ythkpoiideiimaaa", sum := "64f44114a6580b9d85943d53e5614c674e4f7fbeddd26c355adbaf90fbe48f17", func := "bosket/bosketlaw25.LayoWords", spec := "layoWords", inPlace := ["internal/abi.NoEscape", "internal/bytealg.MakeNoZero"], unfollowed := true, recurses := true, apart := false }
def LayoWordsSaid : Prop := layoWordsRow.holds Try.pinned (OpenSpec.ofChange layoWordsSpec)

/-- ITS FALSE NEIGHBOUR: 'it returns false'. Refute it at one input. -/
def layoWordsWrong : ChangeSpec := { name := "layoWords", fn := fun _ => fun
  | [d1, d2, d3, d4] => { results := [.lit (.bool false)], args := [d1, d2, d3, d4] }
  | _ => none }
def LayoWordsWrongFalsely : Prop := layoWordsRow.holds Try.pinned (OpenSpec.ofChange layoWordsWrong)

/- THE SECOND FORM. 'bulk': how many values and letters a reading holds, each counted each time it is reached (what is shared counts as often as it is met; a slice's spare places count too). A statement '..UptoSaid' is the law's where the arguments, and the package variables that the reading takes, are together of bulk at most 1048576: NARROWER than '..Said'. Prove '..Said' where nothing that the law and all that it calls make is longer than what came in: it says more and counts as full. Else prove '..UptoSaid'. A law counts once. -/
mutual
def uptoBulk {H : Type} : DataW H → Nat
  | .lit (.string bytes) => bytes.length + 1
  | .lit _ => 1
  | .nil => 1
  | .ptr d => uptoBulk d + 1
  | .slice elems spare => uptoBulkAll elems + uptoBulkAll spare + 1
  | .agg parts => uptoBulkAll parts + 1
  | .iface _ d => uptoBulk d + 1
  | .map entries => uptoBulkEntries entries + 1
  | .held _ => 1
def uptoBulkAll {H : Type} : List (DataW H) → Nat
  | [] => 0
  | d :: r => uptoBulk d + uptoBulkAll r
def uptoBulkEntries {H : Type} : List (Lit × DataW H) → Nat
  | [] => 0
  | x :: r => uptoBulkEntry x + uptoBulkEntries r
def uptoBulkEntry {H : Type} : Lit × DataW H → Nat
  | (.string bytes, d) => bytes.length + uptoBulk d + 1
  | (_, d) => uptoBulk d + 1
 end
def uptoSmall : (H : Type) → List (DataW H) → Bool := fun _ ds => decide (uptoBulkAll ds ≤ 1048576)
def OpenSpec.upto (s : _root_.Go.ChangeSpec) : _root_.Go.OpenSpec := { _root_.Go.OpenSpec.ofChange s with cond := some uptoSmall }

/-- 'bosketlaw25.LayoMade', WHERE WHAT IT READS IS OF BULK AT MOST 1048576: true; the input reads as it did. -/
def layoMadeUptoRow : OpenClaim := { program := "ythkpoiideiimaaa", sum := "64f44114a6580b9d85943d53e5614c674e4f7fbeddd26c355adbaf90fbe48f17", func := "bosket/bosketlaw25.LayoMade", spec := "layoMade", inPlace := ["internal/abi.NoEscape", "internal/bytealg.MakeNoZero"], unfollowed := true, recurses := true, apart := false, narrowed := true }
def LayoMadeUptoSaid : Prop := layoMadeUptoRow.holds Try.pinned (OpenSpec.upto layoMadeSpec)

/-- 'bosketlaw25.LayoFits', WHERE WHAT IT READS IS OF BULK AT MOST 1048576: true; the input reads as it did. -/
def layoFitsUptoRow : OpenClaim := { program := "ythkpoiideiimaaa", sum := "64f44114a6580b9d85943d53e5614c674e4f7fbeddd26c355adbaf90fbe48f17", func := "bosket/bosketlaw25.LayoFits", spec := "layoFits", inPlace := ["internal/abi.NoEscape", "internal/bytealg.MakeNoZero"], unfollowed := true, recurses := true, apart := false, narrowed := true }
def LayoFitsUptoSaid : Prop := layoFitsUptoRow.holds Try.pinned (OpenSpec.upto layoFitsSpec)

/-- 'bosketlaw25.LayoRows', WHERE WHAT IT READS IS OF BULK AT MOST 1048576: true; the input reads as it did. -/
def layoRowsUptoRow : OpenClaim := { program := "ythkpoiideiimaaa", sum := "64f44114a6580b9d85943d53e5614c674e4f7fbeddd26c355adbaf90fbe48f17", func := "bosket/bosketlaw25.LayoRows", spec := "layoRows", inPlace := ["internal/abi.NoEscape", "internal/bytealg.MakeNoZero"], unfollowed := true, recurses := true, apart := false, narrowed := true }
def LayoRowsUptoSaid : Prop := layoRowsUptoRow.holds Try.pinned (OpenSpec.upto layoRowsSpec)

/-- 'bosketlaw25.LayoGrows', WHERE WHAT IT READS IS OF BULK AT MOST 1048576: true; the input reads as it did. -/
def layoGrowsUptoRow : OpenClaim := { program := "ythkpoiideiimaaa", sum := "64f44114a6580b9d85943d53e5614c674e4f7fbeddd26c355adbaf90fbe48f17", func := "bosket/bosketlaw25.LayoGrows", spec := "layoGrows", inPlace := ["internal/abi.NoEscape", "internal/bytealg.MakeNoZero"], unfollowed := true, recurses := true, apart := false, narrowed := true }
def LayoGrowsUptoSaid : Prop := layoGrowsUptoRow.holds Try.pinned (OpenSpec.upto layoGrowsSpec)

/-- 'bosketlaw25.LayoNest', WHERE WHAT IT READS IS OF BULK AT MOST 1048576: true; the input reads as it did. -/
def layoNestUptoRow : OpenClaim := { program := "ythkpoiideiimaaa", sum := "64f44114a6580b9d85943d53e5614c674e4f7fbeddd26c355adbaf90fbe48f17", func := "bosket/bosketlaw25.LayoNest", spec := "layoNest", inPlace := ["internal/abi.NoEscape", "internal/bytealg.MakeNoZero"], unfollowed := true, recurses := true, apart := false, narrowed := true }
def LayoNestUptoSaid : Prop := layoNestUptoRow.holds Try.pinned (OpenSpec.upto layoNestSpec)

/-- 'bosketlaw25.LayoWords', WHERE WHAT IT READS IS OF BULK AT MOST 1048576: true; the input reads as it did. -/
def layoWordsUptoRow : OpenClaim := { program := "ythkpoiideiimaaa", sum := "64f44114a6580b9d85943d53e5614c674e4f7fbeddd26c355adbaf90fbe48f17", func := "bosket/bosketlaw25.LayoWords", spec := "layoWords", inPlace := ["internal/abi.NoEscape", "internal/bytealg.MakeNoZero"], unfollowed := true, recurses := true, apart := false, narrowed := true }
def LayoWordsUptoSaid : Prop := layoWordsUptoRow.holds Try.pinned (OpenSpec.upto layoWordsSpec)

end Rows
end Go.Proofs.Ythkpoiideiimaaa
