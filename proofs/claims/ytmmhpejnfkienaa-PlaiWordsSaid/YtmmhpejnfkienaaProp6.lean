/- The law PropTells of chapter 14: its walk. -/
import Derived.Test.YtmmhpejnfkienaaProp5
import Derived.Test.YtmmhpejnfkienaaStrs
namespace Go.Proofs.Ytmmhpejnfkienaa
open Go Go.RowKit Go.PlainAid
set_option linter.unusedVariables false
set_option maxRecDepth 20000 in
set_option maxHeartbeats 1600000 in
theorem same14 (s : ByteArray) (a : Int) (flow : Bool) (w : World) (hs : s.size ≤ 4611686018427387903) (ha : a ≤ 9223372036854775807) :
    Calls Try.prog 51 #[.string s, .int .i64 a, .bool flow] w fun e w' => e = .returned (.bool true) ∧ Below w.heap.size w w' := by
  obtain ⟨R, hR⟩ : ∃ R, R = Bk.readI s a flow := ⟨_, rfl⟩
  obtain ⟨A, hA⟩ : ∃ A, A = Bk.aliasI s a := ⟨_, rfl⟩
  have HR := Lib.hid hR
  have HA := Lib.hid hA
  clear hR hA
  obtain ⟨r1, r2, r3, r4⟩ := R
  obtain ⟨a1, a2, a3⟩ := A
  go_enter Try.func51, Try.ntmps51
  go_wp2_with first
    | (go_at_call 52; refine (read_any s a flow _ hs ha).mono ?_; rintro e w' ⟨rfl, hg⟩; have HG := Lib.hid hg; clear hg; rw [← HR.out]; unfold back4i)
    | (go_at_call 74; refine (rread_any s a flow _ hs ha).mono ?_; rintro e w' ⟨rfl, rfl⟩; rw [← HR.out]; unfold back4i)
    | (go_at_call 53; refine (alias_any s a _ hs ha).mono ?_; rintro e w' ⟨rfl, rfl⟩; rw [← HA.out]; unfold back3i)
    | (go_at_call 75; refine (ralias_any s a _ hs ha).mono ?_; rintro e w' ⟨rfl, rfl⟩; rw [← HA.out]; unfold back3i)
  go_ret
  exact ⟨rfl, HG.out⟩
set_option maxRecDepth 20000 in
set_option maxHeartbeats 1600000 in
theorem awake14 (w : World) : Calls Try.prog 50 #[] w fun e w' => e = .returned (.bool true) ∧ Below w.heap.size w w' := by
  have HR : Hid (Bk.readI ⟨#[33, 116, 32, 38, 97, 32, 120]⟩ 0 false = (⟨#[97]⟩, ⟨#[33, 116]⟩, 5, 0)) := Lib.hid (by decide +kernel)
  have HA : Hid (Bk.aliasI ⟨#[42, 97, 58, 98]⟩ 0 = (⟨#[97, 58, 98]⟩, 4, 0)) := Lib.hid (by decide +kernel)
  go_enter Try.func50, Try.ntmps50
  go_wp2_with first
    | (go_at_call 52; refine (read_any _ _ _ _ (by decide) (by decide)).mono ?_; rintro e w' ⟨rfl, hg⟩; have HG := Lib.hid hg; clear hg; rw [HR.out]; unfold back4i)
    | (go_at_call 53; refine (alias_any _ _ _ (by decide) (by decide)).mono ?_; rintro e w' ⟨rfl, rfl⟩; rw [HA.out]; unfold back3i)
  go_ret
  exact ⟨rfl, HG.out⟩
end Go.Proofs.Ytmmhpejnfkienaa
