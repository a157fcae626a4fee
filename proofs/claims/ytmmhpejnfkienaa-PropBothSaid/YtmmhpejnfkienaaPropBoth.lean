/- Properties in whichever order: what Read tells of them. Plain. -/
import Derived.Test.YtmmhpejnfkienaaProp6
import Derived.Test.YtmmhpejnfkienaaBase
namespace Go.Proofs.Ytmmhpejnfkienaa
open Go Go.RowKit Go.PlainAid
set_option linter.unusedVariables false
namespace Bk
def nm5 : List ByteArray := [⟨#[97]⟩, ⟨#[98, 45, 99]⟩, ⟨#[195, 169]⟩, ⟨#[120, 58]⟩, ⟨#[49, 35]⟩]
def tg5 : List ByteArray := [⟨#[33]⟩, ⟨#[33, 116]⟩, ⟨#[33, 33, 115, 116, 114]⟩, ⟨#[33, 101, 33, 120]⟩, ⟨#[33, 60, 97, 58, 98, 62]⟩]
def en5 : List ByteArray := [⟨#[32, 122]⟩, ⟨#[10]⟩, ⟨#[9, 122]⟩, ⟨#[]⟩, ⟨#[32, 10]⟩]
/-- What Read is to tell. -/
def okR (s e x y : ByteArray) : Bool := decide (readI (s ++ e) 0 true = (x, y, (s.size : Int), 0)) && decide (readI (s ++ e) 0 false = (x, y, (s.size : Int), 0))
theorem one_yes : ∀ i, i < 5 → ∀ e, e < 5 → okR (⟨#[38]⟩ ++ nm5.getD i ByteArray.empty) (en5.getD e ByteArray.empty) (nm5.getD i ByteArray.empty) ByteArray.empty = true := by decide +kernel
theorem tag_yes : ∀ i, i < 5 → ∀ e, e < 5 → okR (tg5.getD i ByteArray.empty) (en5.getD e ByteArray.empty) ByteArray.empty (tg5.getD i ByteArray.empty) = true := by decide +kernel
theorem two_yes : ∀ i, i < 5 → ∀ j, j < 5 → ∀ b, b < 3 → ∀ e, e < 5 → okR (⟨#[38]⟩ ++ nm5.getD i ByteArray.empty ++ manyS 32 (1 + b) ++ tg5.getD j ByteArray.empty) (en5.getD e ByteArray.empty) (nm5.getD i ByteArray.empty) (tg5.getD j ByteArray.empty) = true := by decide +kernel
theorem two_yes2 : ∀ i, i < 5 → ∀ j, j < 5 → ∀ b, b < 3 → ∀ e, e < 5 → okR (tg5.getD j ByteArray.empty ++ manyS 32 (1 + b) ++ (⟨#[38]⟩ ++ nm5.getD i ByteArray.empty)) (en5.getD e ByteArray.empty) (nm5.getD i ByteArray.empty) (tg5.getD j ByteArray.empty) = true := by decide +kernel
end Bk
end Go.Proofs.Ytmmhpejnfkienaa
