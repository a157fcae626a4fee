/- Where a part ends whatever stands behind: told by the text's head alone. Plain. -/
import Derived.Test.YtmmhpejnfkienaaPlai8
import Derived.Test.YtmmhpejnfkienaaWords
namespace Go.Proofs.Ytmmhpejnfkienaa
open Go Go.RowKit Go.PlainAid
set_option linter.unusedVariables false
namespace Bk
theorem toN_ge_of {s : ByteArray} {k n : Nat} (h : k ≤ s.size) (hn : n ≤ s.size) (h1 : ∀ j, k ≤ j → j < n → bt s j ≠ 10) : n ≤ toN s k := by
  rcases Nat.lt_or_ge (toN s k) n with h2 | h2
  · exact absurd (toN_end (by omega)) (h1 _ (toN_ge s k) h2)
  · exact h2
theorem endP_left {l b : ByteArray} {fl : Bool} {j : Nat} (h : j + 1 < l.size) : endP (l ++ b) fl j = endP l fl j := by
  have hz := size_app l b
  have e : endsB (l ++ b) ((j : Int) + 1) = endsB l ((j : Int) + 1) := by
    have h1 := @ends_in (l ++ b) (j + 1) (by omega)
    have h2 := @ends_in l (j + 1) h
    rw [bt_left h] at h1
    exact h1.trans h2.symm
  unfold endP stopsB
  rw [e, bt_left (by omega), bt_left h, bt_left (show j - 1 < l.size by omega)]
/-- May a part that begins at the head of l end at e, trimmed to m, whatever stands behind l? -/
def endB (l : ByteArray) (fl : Bool) (e m : Nat) : Bool :=
  decide (e < l.size) && (List.range e).all (fun j => bt l j != 10 && !endP l fl j) && (bt l e == 10 || (endP l fl e && (bt l e != 58 || decide (e + 1 < l.size)))) &&
  decide (m ≤ e) && (List.range (e - m)).all (fun j => whiteB (bt l (m + j))) && (m == 0 || !whiteB (bt l (m - 1)))
theorem part_pre {l b : ByteArray} {fl : Bool} {e m : Nat} (h : endB l fl e m = true) : partN (l ++ b) 0 fl = m := by
  unfold endB at h
  simp only [Bool.and_eq_true, decide_eq_true_eq, List.all_eq_true, List.mem_range, Bool.or_eq_true, bne_iff_ne, beq_iff_eq, Bool.not_eq_true'] at h
  obtain ⟨⟨⟨⟨⟨h1, h2⟩, h3⟩, h4⟩, h5⟩, h6⟩ := h
  have hz := size_app l b
  have hA : ∀ j, 0 ≤ j → j < e → bt (l ++ b) j ≠ 10 := fun j _ hj => by rw [bt_left (by omega)]; exact (h2 j hj).1
  have hT := toN_ge_of (Nat.zero_le _) (by omega : e ≤ (l ++ b).size) hA
  have hE : partE (l ++ b) 0 fl = e := by
    refine partE_eq (Nat.zero_le _) hT (fun j _ hj => ?_) (fun hlt => ?_)
    · rw [endP_left (by omega)]; exact (h2 j hj).2
    · rcases h3 with h3 | ⟨h3, h3'⟩
      · have := toN_all (s := l ++ b) (k := 0) (Nat.zero_le _) hlt
        rw [bt_left h1] at this
        exact absurd h3 this
      · by_cases hs : e + 1 < l.size
        · rw [endP_left hs]; exact h3
        · have h58 : bt l e ≠ 58 := by rcases h3' with h | h; exact h; omega
          have hbe : bt (l ++ b) e = bt l e := bt_left h1
          unfold endP at h3 ⊢
          rw [hbe, if_neg h58, bt_left (show e - 1 < l.size by omega)]
          rw [if_neg h58] at h3
          exact h3
  unfold partN
  rw [if_neg (by omega), hE]
  refine trimN_eq h4 (Nat.zero_le _) (fun j a b => ?_) (fun h0 => ?_)
  · rw [bt_left (by omega)]
    have := h5 (j - m) (by omega)
    rw [show m + (j - m) = j from by omega] at this
    exact this
  · rw [bt_left (by omega)]
    rcases h6 with h | h
    · omega
    · exact h
def sg10 : List ByteArray := [⟨#[58, 32]⟩, ⟨#[58, 9]⟩, ⟨#[10]⟩, ⟨#[44]⟩, ⟨#[93]⟩, ⟨#[125]⟩, ⟨#[91]⟩, ⟨#[123]⟩, ⟨#[58, 44]⟩, ⟨#[58, 93]⟩]
def sgAt (k : Nat) : ByteArray := sg10.getD k ByteArray.empty
def wdAt (i : Nat) : ByteArray := w10.getD i ByteArray.empty
theorem sg10_at : ∀ k, k < 10 → ([Value.string ⟨#[58, 32]⟩, Value.string ⟨#[58, 9]⟩, Value.string ⟨#[10]⟩, Value.string ⟨#[44]⟩, Value.string ⟨#[93]⟩, Value.string ⟨#[125]⟩, Value.string ⟨#[91]⟩, Value.string ⟨#[123]⟩, Value.string ⟨#[58, 44]⟩, Value.string ⟨#[58, 93]⟩] : List Value)[k]? = some (.string (sgAt k)) ∧ (sgAt k).size ≤ 2 := by
  intro k hk
  rcases (by omega : k = 0 ∨ k = 1 ∨ k = 2 ∨ k = 3 ∨ k = 4 ∨ k = 5 ∨ k = 6 ∨ k = 7 ∨ k = 8 ∨ k = 9) with rfl | rfl | rfl | rfl | rfl | rfl | rfl | rfl | rfl | rfl
  all_goals exact ⟨rfl, by decide⟩
theorem ends_all : ∀ i, i < 10 → ∀ k, k < 10 →
    endB (wdAt i ++ sgAt k) true (wdAt i).size (wdAt i).size = true ∧ endB (wdAt i ++ ⟨#[32, 9]⟩ ++ sgAt k) true ((wdAt i).size + 2) (wdAt i).size = true ∧
    (k < 3 → endB (wdAt i ++ sgAt k) false (wdAt i).size (wdAt i).size = true ∧ endB (wdAt i ++ ⟨#[32, 9]⟩ ++ sgAt k) false ((wdAt i).size + 2) (wdAt i).size = true) ∧
    endB (wdAt i ++ ⟨#[35, 120]⟩ ++ sgAt k) true ((wdAt i).size + 2) ((wdAt i).size + 2) = true ∧ endB (wdAt i ++ ⟨#[32, 35, 120]⟩ ++ sgAt k) true ((wdAt i).size + 1) (wdAt i).size = true ∧
    partN (wdAt i) 0 false = (wdAt i).size := by decide +kernel
end Bk
end Go.Proofs.Ytmmhpejnfkienaa
