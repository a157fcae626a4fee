/- A group behind a word: plain law. -/
import Derived.Test.YthkpoiideiimaaaTel7
namespace Go.Proofs.Ythkpoiideiimaaa
open Go Go.RowKit Go.PlainAid
set_option linter.unusedVariables false
namespace Bk
def pairF (t : ByteArray) (F : Fo) : Fo := .cons 1 t 0 .nil (.cons 7 ByteArray.empty 0 F .nil)
theorem pair_show (W : Int) (t : ByteArray) (F : Fo) (h0 : 0 < t.size) :
    showN W 5 ByteArray.empty 0 (pairF t F) = (tellF W F 0 (fitsB W F 0 ⟨t, widS t, true⟩) ⟨t, widS t, true⟩).out := by
  have hst : nodeF W 1 t 0 .nil 0 false st0 = ⟨t, widS t, true⟩ := by
    show txtS st0 t 0 = _
    unfold txtS
    rw [if_neg (by omega)]
    show (⟨(ByteArray.empty ++ ByteArray.empty) ++ t, 0 + (widS t : Int), true⟩ : St) = _
    rw [ByteArray.append_empty, ByteArray.empty_append, Int.zero_add]
  show (tellF W (pairF t F) 0 false st0).out = _
  unfold pairF
  rw [tell_cons, hst, tell_cons]
  show (tellF W F 0 (false || fitsB W F 0 ⟨t, widS t, true⟩) ⟨t, widS t, true⟩).out = _
  rw [Bool.false_or]
theorem pair_fits {W : Int} {t : ByteArray} {F : Fo} {mt v : Nat} (ht : Gd t mt) (h0 : 0 < t.size) (hlf : ∀ j, j < t.size → bt t j ≠ 10) (hG : GoodF F) (hv : widF F = some v) (hle : (widS t : Int) + v ≤ W) :
    cntF (showN W 5 ByteArray.empty 0 (pairF t F)) = 0 ∧ widS (showN W 5 ByteArray.empty 0 (pairF t F)) = widS t + v := by
  have hf : fitsB W F 0 ⟨t, widS t, true⟩ = true := by
    unfold fitsB
    rw [hv]
    show decide ((v : Int) ≤ W - (widS t : Int)) = true
    exact decide_eq_true (by omega)
  rw [pair_show W t F h0, hf]
  have h := tell_flat W F 0 ⟨t, widS t, true⟩ v mt hG hv rfl ht
  refine ⟨?_, ?_⟩
  · rw [h.2.2.1]; exact cntF_zero hlf
  · rw [h.2.1.wid, ht.wid]
theorem pair_breaks {W : Int} {t : ByteArray} {F : Fo} (h0 : 0 < t.size) (hG : GoodF F) (hno : ∀ v, widF F = some v → ¬ ((widS t : Int) + v ≤ W)) :
    brF F ≤ cntF (showN W 5 ByteArray.empty 0 (pairF t F)) := by
  have hf : fitsB W F 0 ⟨t, widS t, true⟩ = false := by
    unfold fitsB
    cases hv : widF F with
    | none => rfl
    | some v =>
      show decide ((v : Int) ≤ W - (widS t : Int)) = false
      have := hno v hv
      exact decide_eq_false (by omega)
  rw [pair_show W t F h0, hf]
  have := tell_breaks W F 0 ⟨t, widS t, true⟩ hG
  omega
end Bk
end Go.Proofs.Ythkpoiideiimaaa
