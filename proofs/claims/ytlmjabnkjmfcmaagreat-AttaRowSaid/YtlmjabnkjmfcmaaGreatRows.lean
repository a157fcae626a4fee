/-
  No cell of these rows narrows 'for every input' (looked for: loops, veiled, ifaces, maps, wideKeys, modest, calm, conditions, laid).
  DERIVED. THE GIVEN ROWS OF THIS SEAT. 7 by the template 'for every input the law returns true; each argument reads behind the call as it read before'; 0 by the template 'total and deterministic' (their statements: YtlmjabnkjmfcmaaGreatTotals.lean).
  GIVEN WITH THE SEED: the statements are not yours to turn. If you find one false, say at which input.
  Laid BY PROGRAM, IN A SANDBOX (cutbox-rows.mjs): the forced cells as the released guide's own fill.sh prints them over the translation fe1f33387d5ce2b9… (all of the seat's roots in one cut). By AI agents, Wed Nov 11 2026. No macro, syntax, notation, axiom, sorry.
-/
import Derived.Test.YtlmjabnkjmfcmaaGreatChecked
import GoSem.Claim
import GoSem.ClaimJoined
import GoSem.ClaimMapViews
import Derived.JoinedTies
import Derived.KernelRfl
namespace Go.Proofs.YtlmjabnkjmfcmaaGreat
/- THE CELL 'sum', in the pinned program and in every row, IS THE sha256 OF THE DUMP (.gsa) THAT YtlmjabnkjmfcmaaGreatProg.lean LOADS. Nothing in Lean hashes anything: it is a label: what it is worth is what the hold of that sum in a sandbox is worth. -/
noncomputable def Tryz.pinned : Pinned := { name := "ytlmjabnkjmfcmaagreat", sum := "fe1f33387d5ce2b954c2e7e261685ac64d68637c0df2f41bd21a5d219e4b9c81", checked := Tryz.checked }
namespace Rows
def none {H : Type} : Left H := { results := [], args := [] }

/-- 'bosketlaw22.AttaTells': WHATEVER THE INPUT: true; the input reads as it did. -/
def attaTellsSpec : ChangeSpec := { name := "attaTells", fn := fun _ => fun
  | [d1, d2, d3] => { results := [.lit (.bool true)], args := [d1, d2, d3] }
  | _ => none }
def attaTellsRow : OpenClaim := { program := "ytlmjabnkjmfcmaagreat", sum := "fe1f33387d5ce2b954c2e7e261685ac64d68637c0df2f41bd21a5d219e4b9c81", func := "bosket/bosketlaw22.AttaTells", spec := "attaTells", unfollowed := true, recurses := true, apart := false }
def AttaTellsSaid : Prop := attaTellsRow.holds Tryz.pinned (OpenSpec.ofChange attaTellsSpec)

/-- ITS FALSE NEIGHBOUR: 'it returns false'. Refute it at one input. -/
def attaTellsWrong : ChangeSpec := { name := "attaTells", fn := fun _ => fun
  | [d1, d2, d3] => { results := [.lit (.bool false)], args := [d1, d2, d3] }
  | _ => none }
def AttaTellsWrongFalsely : Prop := attaTellsRow.holds Tryz.pinned (OpenSpec.ofChange attaTellsWrong)

/-- 'bosketlaw22.AttaAgain': WHATEVER THE INPUT: true; the input reads as it did. -/
def attaAgainSpec : ChangeSpec := { name := "attaAgain", fn := fun _ => fun
  | [d1, d2, d3, d4] => { results := [.lit (.bool true)], args := [d1, d2, d3, d4] }
  | _ => none }
def attaAgainRow : OpenClaim := { program := "ytlmjabnkjmfcmaagreat", sum := "fe1f33387d5ce2b954c2e7e261685ac64d68637c0df2f41bd21a5d219e4b9c81", func := "bosket/bosketlaw22.AttaAgain", spec := "attaAgain", unfollowed := true, recurses := true, apart := false }
def AttaAgainSaid : Prop := attaAgainRow.holds Tryz.pinned (OpenSpec.ofChange attaAgainSpec)

/-- ITS FALSE NEIGHBOUR: 'it returns false'. Refute it at one input. -/
def attaAgainWrong : ChangeSpec := { name := "attaAgain", fn := fun _ => fun
  | [d1, d2, d3, d4] => { results := [.lit (.bool false)], args := [d1, d2, d3, d4] }
  | _ => none }
def AttaAgainWrongFalsely : Prop := attaAgainRow.holds Tryz.pinned (OpenSpec.ofChange attaAgainWrong)

/-- 'bosketlaw22.AttaNodes': WHATEVER THE INPUT: true; the input reads as it did. -/
def attaNodesSpec : ChangeSpec := { name := "attaNodes", fn := fun _ => fun
  | [d1, d2, d3, d4] => { results := [.lit (.bool true)], args := [d1, d2, d3, d4] }
  | _ => none }
def attaNodesRow : OpenClaim := { program := "ytlmjabnkjmfcmaagreat", sum := "fe1f33387d5ce2b954c2e7e261685ac64d68637c0df2f41bd21a5d219e4b9c81", func := "bosket/bosketlaw22.AttaNodes", spec := "attaNodes", unfollowed := true, recurses := true, apart := false }
def AttaNodesSaid : Prop := attaNodesRow.holds Tryz.pinned (OpenSpec.ofChange attaNodesSpec)

/-- ITS FALSE NEIGHBOUR: 'it returns false'. Refute it at one input. -/
def attaNodesWrong : ChangeSpec := { name := "attaNodes", fn := fun _ => fun
  | [d1, d2, d3, d4] => { results := [.lit (.bool false)], args := [d1, d2, d3, d4] }
  | _ => none }
def AttaNodesWrongFalsely : Prop := attaNodesRow.holds Tryz.pinned (OpenSpec.ofChange attaNodesWrong)

/-- 'bosketlaw22.AttaPlaces': WHATEVER THE INPUT: true; the input reads as it did. -/
def attaPlacesSpec : ChangeSpec := { name := "attaPlaces", fn := fun _ => fun
  | [d1, d2, d3] => { results := [.lit (.bool true)], args := [d1, d2, d3] }
  | _ => none }
def attaPlacesRow : OpenClaim := { program := "ytlmjabnkjmfcmaagreat", sum := "fe1f33387d5ce2b954c2e7e261685ac64d68637c0df2f41bd21a5d219e4b9c81", func := "bosket/bosketlaw22.AttaPlaces", spec := "attaPlaces", unfollowed := true, recurses := true, apart := false }
def AttaPlacesSaid : Prop := attaPlacesRow.holds Tryz.pinned (OpenSpec.ofChange attaPlacesSpec)

/-- ITS FALSE NEIGHBOUR: 'it returns false'. Refute it at one input. -/
def attaPlacesWrong : ChangeSpec := { name := "attaPlaces", fn := fun _ => fun
  | [d1, d2, d3] => { results := [.lit (.bool false)], args := [d1, d2, d3] }
  | _ => none }
def AttaPlacesWrongFalsely : Prop := attaPlacesRow.holds Tryz.pinned (OpenSpec.ofChange attaPlacesWrong)

/-- 'bosketlaw22.AttaBlank': WHATEVER THE INPUT: true; the input reads as it did. -/
def attaBlankSpec : ChangeSpec := { name := "attaBlank", fn := fun _ => fun
  | [d1, d2, d3] => { results := [.lit (.bool true)], args := [d1, d2, d3] }
  | _ => none }
def attaBlankRow : OpenClaim := { program := "ytlmjabnkjmfcmaagreat", sum := "fe1f33387d5ce2b954c2e7e261685ac64d68637c0df2f41bd21a5d219e4b9c81", func := "bosket/bosketlaw22.AttaBlank", spec := "attaBlank", unfollowed := true, recurses := true, apart := false }
def AttaBlankSaid : Prop := attaBlankRow.holds Tryz.pinned (OpenSpec.ofChange attaBlankSpec)

/-- ITS FALSE NEIGHBOUR: 'it returns false'. Refute it at one input. -/
def attaBlankWrong : ChangeSpec := { name := "attaBlank", fn := fun _ => fun
  | [d1, d2, d3] => { results := [.lit (.bool false)], args := [d1, d2, d3] }
  | _ => none }
def AttaBlankWrongFalsely : Prop := attaBlankRow.holds Tryz.pinned (OpenSpec.ofChange attaBlankWrong)

/-- 'bosketlaw22.AttaHand': WHATEVER THE INPUT: true; the input reads as it did. -/
def attaHandSpec : ChangeSpec := { name := "attaHand", fn := fun _ => fun
  | [d1, d2] => { results := [.lit (.bool true)], args := [d1, d2] }
  | _ => none }
def attaHandRow : OpenClaim := { program := "ytlmjabnkjmfcmaagreat", sum := "fe1f33387d5ce2b954c2e7e261685ac64d68637c0df2f41bd21a5d219e4b9c81", func := "bosket/bosketlaw22.AttaHand", spec := "attaHand", unfollowed := true, recurses := true, apart := false }
def AttaHandSaid : Prop := attaHandRow.holds Tryz.pinned (OpenSpec.ofChange attaHandSpec)

/-- ITS FALSE NEIGHBOUR: 'it returns false'. Refute it at one input. -/
def attaHandWrong : ChangeSpec := { name := "attaHand", fn := fun _ => fun
  | [d1, d2] => { results := [.lit (.bool false)], args := [d1, d2] }
  | _ => none }
def AttaHandWrongFalsely : Prop := attaHandRow.holds Tryz.pinned (OpenSpec.ofChange attaHandWrong)

/-- 'bosketlaw22.AttaRow': WHATEVER THE INPUT: true; the input reads as it did. -/
def attaRowSpec : ChangeSpec := { name := "attaRow", fn := fun _ => fun
  | [d1, d2, d3] => { results := [.lit (.bool true)], args := [d1, d2, d3] }
  | _ => none }
def attaRowRow : OpenClaim := { program := "ytlmjabnkjmfcmaagreat", sum := "fe1f33387d5ce2b954c2e7e261685ac64d68637c0df2f41bd21a5d219e4b9c81", func := "bosket/bosketlaw22.AttaRow", spec := "attaRow", unfollowed := true, recurses := true, apart := false }
def AttaRowSaid : Prop := attaRowRow.holds Tryz.pinned (OpenSpec.ofChange attaRowSpec)

/-- ITS FALSE NEIGHBOUR: 'it returns false'. Refute it at one input. -/
def attaRowWrong : ChangeSpec := { name := "attaRow", fn := fun _ => fun
  | [d1, d2, d3] => { results := [.lit (.bool false)], args := [d1, d2, d3] }
  | _ => none }
def AttaRowWrongFalsely : Prop := attaRowRow.holds Tryz.pinned (OpenSpec.ofChange attaRowWrong)

/- THE SECOND FORM. 'bulk': how many values and letters a reading holds, each counted each time it is reached (what is shared counts as often as it is met; a slice's spare places count too). A statement '..UptoSaid' is the law's where the arguments, and the package variables that the reading takes, are together of bulk at most 1048576: NARROWER than '..Said'. Prove '..Said' where nothing that the law and all that it calls make is longer than what came in: it says more and counts as full. Else prove '..UptoSaid'. A law counts once. -/
mutual
def uptoBulk {H : Type} : DataW H → Nat
  | .lit (.string bytes) => bytes.length + 1
  | .lit _ => 1
  | .nil => 1
  | .ptr d => uptoBulk d + 1
  | .slice elems spare => uptoBulkAll elems + uptoBulkAll spare + 1
  | .agg parts => uptoBulkAll parts + 1
  | .iface _ d => uptoBulk d + 1
  | .map entries => uptoBulkEntries entries + 1
  | .held _ => 1
def uptoBulkAll {H : Type} : List (DataW H) → Nat
  | [] => 0
  | d :: r => uptoBulk d + uptoBulkAll r
def uptoBulkEntries {H : Type} : List (Lit × DataW H) → Nat
  | [] => 0
  | x :: r => uptoBulkEntry x + uptoBulkEntries r
def uptoBulkEntry {H : Type} : Lit × DataW H → Nat
  | (.string bytes, d) => bytes.length + uptoBulk d + 1
  | (_, d) => uptoBulk d + 1
 end
def uptoSmall : (H : Type) → List (DataW H) → Bool := fun _ ds => decide (uptoBulkAll ds ≤ 1048576)
def OpenSpec.upto (s : _root_.Go.ChangeSpec) : _root_.Go.OpenSpec := { _root_.Go.OpenSpec.ofChange s with cond := some uptoSmall }

/-- 'bosketlaw22.AttaTells', WHERE WHAT IT READS IS OF BULK AT MOST 1048576: true; the input reads as it did. -/
def attaTellsUptoRow : OpenClaim := { program := "ytlmjabnkjmfcmaagreat", sum := "fe1f33387d5ce2b954c2e7e261685ac64d68637c0df2f41bd21a5d219e4b9c81", func := "bosket/bosketlaw22.AttaTells", spec := "attaTells", unfollowed := true, recurses := true, apart := false, narrowed := true }
def AttaTellsUptoSaid : Prop := attaTellsUptoRow.holds Tryz.pinned (OpenSpec.upto attaTellsSpec)

/-- 'bosketlaw22.AttaAgain', WHERE WHAT IT READS IS OF BULK AT MOST 1048576: true; the input reads as it did. -/
def attaAgainUptoRow : OpenClaim := { program := "ytlmjabnkjmfcmaagreat", sum := "fe1f33387d5ce2b954c2e7e261685ac64d68637c0df2f41bd21a5d219e4b9c81", func := "bosket/bosketlaw22.AttaAgain", spec := "attaAgain", unfollowed := true, recurses := true, apart := false, narrowed := true }
def AttaAgainUptoSaid : Prop := attaAgainUptoRow.holds Tryz.pinned (OpenSpec.upto attaAgainSpec)

/-- 'bosketlaw22.AttaNodes', WHERE WHAT IT READS IS OF BULK AT MOST 1048576: true; the input reads as it did. -/
def attaNodesUptoRow : OpenClaim := { program := "ytlmjabnkjmfcmaagreat", sum := "fe1f33387d5ce2b954c2e7e261685ac64d68637c0df2f41bd21a5d219e4b9c81", func := "bosket/bosketlaw22.AttaNodes", spec := "attaNodes", unfollowed := true, recurses := true, apart := false, narrowed := true }
def AttaNodesUptoSaid : Prop := attaNodesUptoRow.holds Tryz.pinned (OpenSpec.upto attaNodesSpec)

/-- 'bosketlaw22.AttaPlaces', WHERE WHAT IT READS IS OF BULK AT MOST 1048576: true; the input reads as it did. -/
def attaPlacesUptoRow : OpenClaim := { program := "ytlmjabnkjmfcmaagreat", sum := "fe1f33387d5ce2b954c2e7e261685ac64d68637c0df2f41bd21a5d219e4b9c81", func := "bosket/bosketlaw22.AttaPlaces", spec := "attaPlaces", unfollowed := true, recurses := true, apart := false, narrowed := true }
def AttaPlacesUptoSaid : Prop := attaPlacesUptoRow.holds Tryz.pinned (OpenSpec.upto attaPlacesSpec)

/-- 'bosketlaw22.AttaBlank', WHERE WHAT IT READS IS OF BULK AT MOST 1048576: true; the input reads as it did. -/
def attaBlankUptoRow : OpenClaim := { program := "ytlmjabnkjmfcmaagreat", sum := "fe1f33387d5ce2b954c2e7e261685ac64d68637c0df2f41bd21a5d219e4b9c81", func := "bosket/bosketlaw22.AttaBlank", spec := "attaBlank", unfollowed := true, recurses := true, apart := false, narrowed := true }
def AttaBlankUptoSaid : Prop := attaBlankUptoRow.holds Tryz.pinned (OpenSpec.upto attaBlankSpec)

/-- 'bosketlaw22.AttaHand', WHERE WHAT IT READS IS OF BULK AT MOST 1048576: true; the input reads as it did. -/
def attaHandUptoRow : OpenClaim := { program := "ytlmjabnkjmfcmaagreat", sum := "fe1f33387d5ce2b954c2e7e261685ac64d68637c0df2f41bd21a5d219e4b9c81", func := "bosket/bosketlaw22.AttaHand", spec := "attaHand", unfollowed := true, recurses := true, apart := false, narrowed := true }
def AttaHandUptoSaid : Prop := attaHandUptoRow.holds Tryz.pinned (OpenSpec.upto attaHandSpec)

/-- 'bosketlaw22.AttaRow', WHERE WHAT IT READS IS OF BULK AT MOST 1048576: true; the input reads as it did. -/
def attaRowUptoRow : OpenClaim := { program := "ytlmjabnkjmfcmaagreat", sum := "fe1f33387d5ce2b954c2e7e261685ac64d68637c0df2f41bd21a5d219e4b9c81", func := "bosket/bosketlaw22.AttaRow", spec := "attaRow", unfollowed := true, recurses := true, apart := false, narrowed := true }
def AttaRowUptoSaid : Prop := attaRowUptoRow.holds Tryz.pinned (OpenSpec.upto attaRowSpec)

end Rows
end Go.Proofs.YtlmjabnkjmfcmaaGreat
