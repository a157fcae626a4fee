/- The reference's Plain: what its loop leans on. Plain. -/
import Derived.Test.YtmmhpejnfkienaaPlai3
namespace Go.Proofs.Ytmmhpejnfkienaa
open Go Go.RowKit Go.PlainAid
set_option linter.unusedVariables false
namespace Bk
/-- What stands behind blank rows. -/
def nextT (s : ByteArray) (n : Int) (fl : Bool) (t b : Nat) : Nat × Nat × Bool :=
  if t < s.size ∧ kindN s (t + 1) = 5 then (firstN s (t + 1) s.size, b, decide (n < inN s (t + 1)) && decide (firstN s (t + 1) s.size < partN s (firstN s (t + 1) s.size) fl)) else (0, 0, false)
theorem next_no {s : ByteArray} {k : Nat} {n : Int} {fl : Bool} (h : firstN s k s.size < toN s k) : (nextS s k n fl).2.2 = false := by rw [nextS, if_pos h]
theorem next_T {s : ByteArray} {k : Nat} {n : Int} {fl : Bool} (h : ¬ firstN s k s.size < toN s k) : nextS s k n fl = nextT s n fl (skipN s (s.size + 1) (toN s k) 0).1 (skipN s (s.size + 1) (toN s k) 0).2 := by
  rw [nextS, if_neg h]; rfl
theorem part_self {s : ByteArray} {k : Nat} {fl : Bool} (h : s.size ≤ k) : partN s k fl = k := by rw [partN, if_pos h]
/-- Nothing more stands there. -/
theorem nextT_out {s : ByteArray} {n : Int} {fl : Bool} {f t b : Nat} (ht : s.size ≤ t + 1) (ht' : t ≤ s.size) : (nextT s n fl (skipN s f t b).1 (skipN s f t b).2).2.2 = false := by
  have hlast : ∀ b, (nextT s n fl t b).2.2 = false := by
    intro b
    unfold nextT
    split
    · rename_i h
      have e : t + 1 = s.size := by omega
      have e2 : firstN s (t + 1) s.size = s.size := by
        have h1 := firstN_ge s (t + 1) s.size
        have h2 := firstN_le (s := s) (k := t + 1) (m := s.size) (by omega)
        omega
      show (_ && _) = false
      rw [e2, part_self (Nat.le_refl _), decide_eq_false (Nat.lt_irrefl _), Bool.and_false]
    · rfl
  have hout : ∀ b, (nextT s n fl s.size b).2.2 = false := by
    intro b
    rw [nextT, if_neg (fun h => Nat.lt_irrefl _ h.1)]
  cases f with
  | zero => exact hlast b
  | succ f =>
    unfold skipN
    split
    · rename_i h
      have e : t + 1 = s.size := by omega
      have e2 : toN s (t + 1) = s.size := by
        have h1 := toN_ge s (t + 1)
        have h2 := toN_le (s := s) (k := t + 1) (by omega)
        omega
      rw [e2, skipN_no (fun h => Nat.lt_irrefl _ h.1)]
      exact hout _
    · exact hlast b
theorem nextT_kind {s : ByteArray} {n : Int} {fl : Bool} {t b : Nat} (h : kindN s (t + 1) ≠ 5) : (nextT s n fl t b).2.2 = false := by
  rw [nextT, if_neg (fun h2 => h h2.2)]
theorem nextT_in {s : ByteArray} {n : Int} {fl : Bool} {t b : Nat} (h : (inN s (t + 1) : Int) ≤ n) : (nextT s n fl t b).2.2 = false := by
  unfold nextT
  split
  · show (_ && _) = false
    rw [decide_eq_false (by omega), Bool.false_and]
  · rfl
theorem nextT_part {s : ByteArray} {n : Int} {fl : Bool} {t b : Nat} (h : partN s (firstN s (t + 1) s.size) fl = firstN s (t + 1) s.size) : (nextT s n fl t b).2.2 = false := by
  unfold nextT
  split
  · show (_ && _) = false
    rw [h, decide_eq_false (Nat.lt_irrefl _), Bool.and_false]
  · rfl
theorem nextT_yes {s : ByteArray} {n : Int} {fl : Bool} {t b : Nat} (h1 : t < s.size) (h2 : kindN s (t + 1) = 5) (h3 : n < (inN s (t + 1) : Int)) (h4 : partN s (firstN s (t + 1) s.size) fl ≠ firstN s (t + 1) s.size) :
    nextT s n fl t b = (firstN s (t + 1) s.size, b, true) := by
  have := partN_ge s (firstN s (t + 1) s.size) fl
  rw [nextT, if_pos ⟨h1, h2⟩, decide_eq_true h3, decide_eq_true (by omega)]; rfl
/-- The colon behind a part, told within its row. -/
theorem colon_row {s : ByteArray} {q m : Nat} (hq : q ≤ s.size) (hm : toN s q = m) : colonB s q = (decide (firstN s q m < m) && bt s (firstN s q m) == 58 && endsB s ((firstN s q m : Nat) + 1)) := by
  subst hm
  have h1 := toN_le hq
  have h2 := firstN_le (s := s) (k := q) (m := toN s q) (toN_ge s q)
  unfold colonB stopsB
  rw [firstN_row hq, Bool.false_and, Bool.or_false]
  by_cases h : firstN s q (toN s q) < toN s q
  · rw [decide_eq_true h, decide_eq_true (by omega)]
  · rw [decide_eq_false h]
    have e : firstN s q (toN s q) = toN s q := by omega
    by_cases h3 : toN s q < s.size
    · have h10 := toN_end h3
      rw [e, h10]; simp
    · rw [e, decide_eq_false h3]
end Bk
end Go.Proofs.Ytmmhpejnfkienaa
