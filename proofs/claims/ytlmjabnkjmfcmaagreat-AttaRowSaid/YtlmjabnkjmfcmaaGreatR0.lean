/- Premises that a tactic proves by default; conditions: none. -/
namespace Go.Proofs.YtlmjabnkjmfcmaaGreat
theorem oM {p : Prop} (h : p := by omega) : p := h
theorem aZ {p : Prop} (h : p := by assumption) : p := h
theorem dE {p : Prop} (h : p := by decide) : p := h
theorem dK {p : Prop} (h : p := by decide +kernel) : p := h
theorem lL : (∀ (α : Type) (a b : List α), (a ++ b).length = a.length + b.length) ∧ (∀ (α : Type) (a : α) (b : List α), (a :: b).length = b.length + 1) ∧ (∀ α : Type, ([] : List α).length = 0) := ⟨fun _ _ _ => List.length_append, fun _ _ _ => List.length_cons, fun _ => rfl⟩
end Go.Proofs.YtlmjabnkjmfcmaaGreat
