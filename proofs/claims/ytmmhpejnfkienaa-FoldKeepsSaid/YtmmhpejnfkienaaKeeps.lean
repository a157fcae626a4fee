/- Words further in or not, on rows: what they come to; line feeds counted. Plain. -/
import Derived.Test.YtmmhpejnfkienaaWords
namespace Go.Proofs.Ytmmhpejnfkienaa
open Go Go.RowKit Go.PlainAid
set_option linter.unusedVariables false
namespace Bk
/-- How many of the first k bytes are line feeds. -/
def cntN (s : ByteArray) : Nat → Nat
  | 0 => 0
  | k + 1 => cntN s k + if bt s k == 10 then 1 else 0
def cntF (s : ByteArray) : Nat := cntN s s.size
theorem cntN_left (a b : ByteArray) : ∀ k, k ≤ a.size → cntN (a ++ b) k = cntN a k
  | 0, _ => rfl
  | k + 1, h => by rw [cntN, cntN, cntN_left a b k (by omega), bt_left (by omega)]
theorem cntN_right (a b : ByteArray) : ∀ j, j ≤ b.size → cntN (a ++ b) (a.size + j) = cntF a + cntN b j
  | 0, _ => by rw [Nat.add_zero, cntN_left a b a.size (Nat.le_refl _)]; rfl
  | j + 1, h => by
    rw [← Nat.add_assoc, cntN, cntN, cntN_right a b j (by omega), bt_right (by omega) (by omega), Nat.add_sub_cancel_left]; omega
theorem cntF_app (a b : ByteArray) : cntF (a ++ b) = cntF a + cntF b := by
  unfold cntF
  rw [size_app, cntN_right a b b.size (Nat.le_refl _)]; rfl
theorem cnt_join {xs : List ByteArray} : ∀ n, (∀ j, j < n → cntF (rowAt xs j) = 0) → cntF (joinS xs n) = n - 1
  | 0, _ => rfl
  | n + 1, h => by
    have ih := cnt_join (xs := xs) n (fun j hj => h j (by omega))
    have h1 : cntF ⟨#[10]⟩ = 1 := by decide +kernel
    rw [joinS, cntF_app, h n (by omega)]
    by_cases h0 : 0 < n
    · rw [if_pos h0, cntF_app, ih, h1]; omega
    · rw [if_neg h0, ih]; omega
/-- A row that is a word, further in or not. -/
def IsR (v : ByteArray) (d : Bool) : Prop := 0 < v.size ∧ v.size ≤ 4 ∧ cntF v = 0 ∧ (bt v 0 == 32) = d ∧ whiteB (bt v 0) = d
def isRB (v : ByteArray) (d : Bool) : Bool := decide (0 < v.size) && decide (v.size ≤ 4) && decide (cntF v = 0) && ((bt v 0 == 32) == d) && (whiteB (bt v 0) == d)
theorem isR_of {v : ByteArray} {d : Bool} (h : isRB v d = true) : IsR v d := by
  unfold isRB at h
  simp only [Bool.and_eq_true, decide_eq_true_eq] at h
  obtain ⟨⟨⟨⟨h1, h2⟩, h3⟩, h4⟩, h5⟩ := h
  exact ⟨h1, h2, h3, by cases d <;> simpa using h4, by cases d <;> simpa using h5⟩
theorem r10 : ∀ k, k < 10 → isRB (w10.getD k ByteArray.empty) false = true ∧ isRB (⟨#[32]⟩ ++ w10.getD k ByteArray.empty) true = true := by decide +kernel
theorem word_R (x : Int) : IsR (wordS x) false ∧ IsR (⟨#[32]⟩ ++ wordS x) true := by
  have h := r10 (lowN x 10) (by have := lowN_lt (x := x) (n := 10) (by omega); omega)
  exact ⟨isR_of h.1, isR_of h.2⟩
/-- Rows so far, what they come to, the last one. -/
def Kp (P : List ByteArray) (want la : ByteArray) : Prop :=
  (∀ R, blockSt (P ++ R) P.length = (want, 0, la)) ∧ (∀ j, (rowAt P j).size ≤ 4) ∧ (∀ j, j < P.length → cntF (rowAt P j) = 0) ∧ want.size ≤ 6 * P.length
theorem kp_nil : Kp [] ByteArray.empty ByteArray.empty := ⟨fun R => rfl, fun j => by unfold rowAt; exact Nat.zero_le _, fun j hj => by simp at hj, Nat.le_refl _⟩
theorem kp_put {P : List ByteArray} {want la v : ByteArray} {d : Bool} (h : Kp P want la) (hv : IsR v d) : Kp (P ++ [v]) (want ++ midS la v 0 ++ v) v := by
  obtain ⟨h1, h2, h3, h4⟩ := h
  obtain ⟨v1, v2, v3, v4, v5⟩ := hv
  have hm := midS_size la v 0
  refine ⟨fun R => ?_, row_app h2 v2, fun j hj => ?_, ?_⟩
  · rw [List.append_assoc, List.length_append]
    show blockSt (P ++ v :: R) (P.length + 1) = _
    rw [blockSt, row_mid, if_neg (by omega), h1 (v :: R)]
  · rw [List.length_append] at hj
    rcases Nat.lt_or_ge j P.length with e | e
    · have : rowAt (P ++ [v]) j = rowAt P j := by
        unfold rowAt
        rw [List.getD_eq_getElem?_getD, List.getD_eq_getElem?_getD, List.getElem?_append_left e]
      rw [this]; exact h3 j e
    · have : j = P.length := by simp at hj; omega
      subst this
      rw [row_mid]; exact v3
  · rw [List.length_append, size_app, size_app]; simp; omega
theorem kp_end {P : List ByteArray} {want la : ByteArray} (h : Kp P want la) (hl : 0 < la.size) : foldBlock P = want ∧ cntF (joinS P P.length) = P.length - 1 := by
  refine ⟨?_, cnt_join _ h.2.2.1⟩
  have := h.1 []
  rw [List.append_nil] at this
  unfold foldBlock
  rw [this]
  show want ++ manyS 10 (if la.size = 0 then _ else _) = _
  rw [if_neg (by omega)]
  show want ++ ByteArray.empty = _
  rw [ByteArray.append_empty]
/-- What stands ahead of a row. -/
theorem mid_none (v : ByteArray) : midS ByteArray.empty v 0 = ByteArray.empty := by rw [midS, if_pos (show ByteArray.empty.size = 0 from rfl)]; rfl
theorem mid_some {la v : ByteArray} {d e : Bool} (hl : IsR la d) (hv : IsR v e) : midS la v 0 = if d || e then ⟨#[10]⟩ else ⟨#[32]⟩ := by
  rw [midS, if_neg (by have := hl.1; omega), hl.2.2.2.2, hv.2.2.2.2]
  cases d <;> cases e <;> rfl
end Bk
end Go.Proofs.Ytmmhpejnfkienaa
