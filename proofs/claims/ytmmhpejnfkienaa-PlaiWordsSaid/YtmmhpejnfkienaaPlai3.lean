/- What a plain scalar is: plain functions. -/
import Derived.Test.YtmmhpejnfkienaaPart2
import Derived.Test.YtmmhpejnfkienaaFold2
namespace Go.Proofs.Ytmmhpejnfkienaa
open Go Go.RowKit Go.PlainAid
set_option linter.unusedVariables false
namespace Bk
theorem toN_from {s : ByteArray} {k j : Nat} (h : k ≤ j) (h1 : j ≤ toN s k) (h2 : k ≤ s.size) : toN s j = toN s k :=
  toN_eq h1 (toN_le h2) (fun i a b => toN_all (s := s) (k := k) (by omega) b) (fun a => toN_end a)
theorem white_feed {c : Int} (h : c = 10) : whiteB c = false := by subst h; decide
theorem firstN_row {s : ByteArray} {k : Nat} (h : k ≤ s.size) : firstN s k s.size = firstN s k (toN s k) := by
  have h1 := toN_ge s k
  have h2 := toN_le h
  have h3 := firstN_le (s := s) (k := k) (m := toN s k) h1
  have h4 := firstN_ge s k (toN s k)
  refine firstN_eq h4 (by omega) (fun j a b => firstN_all a b) (fun a => ?_)
  by_cases e : firstN s k (toN s k) < toN s k
  · exact firstN_end e
  · have e2 : firstN s k (toN s k) = toN s k := by omega
    rw [e2] at a ⊢
    exact white_feed (toN_end a)
/-- Behind which row blank ones end, and how many there are. -/
def skipN (s : ByteArray) : Nat → Nat → Nat → Nat × Nat
  | 0, t, b => (t, b)
  | f + 1, t, b => if t < s.size ∧ kindN s (t + 1) = 1 then skipN s f (toN s (t + 1)) (b + 1) else (t, b)
theorem skipN_no {s : ByteArray} {f t b : Nat} (h : ¬ (t < s.size ∧ kindN s (t + 1) = 1)) : skipN s f t b = (t, b) := by
  cases f with
  | zero => rfl
  | succ f => rw [skipN, if_neg h]
theorem skipN_yes {s : ByteArray} {f t b : Nat} (h : t < s.size) (hk : kindN s (t + 1) = 1) (hf : s.size - t < f) : ∃ f', skipN s f t b = skipN s f' (toN s (t + 1)) (b + 1) ∧ s.size - toN s (t + 1) < f' := by
  obtain ⟨f', rfl⟩ : ∃ f', f = f' + 1 := ⟨f - 1, by omega⟩
  have := toN_ge s (t + 1)
  exact ⟨f', by rw [skipN, if_pos ⟨h, hk⟩], by omega⟩
theorem skipN_ge (s : ByteArray) : ∀ f t b, t ≤ s.size → t + (skipN s f t b).2 ≤ (skipN s f t b).1 + b ∧ (skipN s f t b).1 ≤ s.size ∧ b ≤ (skipN s f t b).2
  | 0, t, b, h => ⟨Nat.le_refl _, h, Nat.le_refl _⟩
  | f + 1, t, b, h => by
    unfold skipN
    split
    · rename_i h1
      have h2 := toN_ge s (t + 1)
      have h3 := toN_le (s := s) (k := t + 1) (by omega)
      have := skipN_ge s f (toN s (t + 1)) (b + 1) h3
      omega
    · exact ⟨Nat.le_refl _, h, Nat.le_refl _⟩
/-- The next part behind a place: where it begins, how many blank rows stand between; is there one? -/
def nextS (s : ByteArray) (k : Nat) (n : Int) (fl : Bool) : Nat × Nat × Bool :=
  if firstN s k s.size < toN s k then (0, 0, false)
  else if (skipN s (s.size + 1) (toN s k) 0).1 < s.size ∧ kindN s ((skipN s (s.size + 1) (toN s k) 0).1 + 1) = 5 then
    (firstN s ((skipN s (s.size + 1) (toN s k) 0).1 + 1) s.size, (skipN s (s.size + 1) (toN s k) 0).2,
      decide (n < inN s ((skipN s (s.size + 1) (toN s k) 0).1 + 1)) && decide (firstN s ((skipN s (s.size + 1) (toN s k) 0).1 + 1) s.size < partN s (firstN s ((skipN s (s.size + 1) (toN s k) 0).1 + 1) s.size) fl))
  else (0, 0, false)
/-- All parts, from one's end on: where the last one ends, the rows, is there one alone? -/
def readL (s : ByteArray) (n : Int) (fl : Bool) : Nat → Nat → List ByteArray → Bool → Nat × List ByteArray × Bool
  | 0, e, l, o => (e, l, o)
  | f + 1, e, l, o => if (nextS s e n fl).2.2 = true then
      readL s n fl f (partN s (nextS s e n fl).1 fl) (l ++ List.replicate (nextS s e n fl).2.1 ByteArray.empty ++ [s.extract (nextS s e n fl).1 (partN s (nextS s e n fl).1 fl)]) false
    else (e, l, o)
theorem readL_no {s : ByteArray} {n : Int} {fl : Bool} {f e : Nat} {l : List ByteArray} {o : Bool} (h : (nextS s e n fl).2.2 = false) : readL s n fl f e l o = (e, l, o) := by
  cases f with
  | zero => rfl
  | succ f => rw [readL, if_neg (by rw [h]; decide)]
theorem next_is {s : ByteArray} {k : Nat} {n : Int} {fl : Bool} (hk : k ≤ s.size) (h : (nextS s k n fl).2.2 = true) :
    k + (nextS s k n fl).2.1 + 1 ≤ (nextS s k n fl).1 ∧ (nextS s k n fl).1 < partN s (nextS s k n fl).1 fl ∧ partN s (nextS s k n fl).1 fl ≤ s.size ∧ (nextS s k n fl).1 < s.size := by
  unfold nextS at h ⊢
  split at h
  · cases h
  · rename_i h1
    rw [if_neg h1]
    split at h
    · rename_i h2
      rw [if_pos h2]
      have ht := toN_ge s k
      have hs := skipN_ge s (s.size + 1) (toN s k) 0 (toN_le hk)
      generalize skipN s (s.size + 1) (toN s k) 0 = sk at *
      obtain ⟨t, b⟩ := sk
      simp only at h h2 hs ⊢
      have hf := firstN_ge s (t + 1) s.size
      simp only [Bool.and_eq_true, decide_eq_true_eq] at h
      have hp := h.2
      have hq := partN_le s (firstN s (t + 1) s.size) fl
      have hl := firstN_le (s := s) (k := t + 1) (m := s.size) (by omega)
      have hr := toN_le (s := s) (k := firstN s (t + 1) s.size) (by omega)
      have : firstN s (t + 1) s.size < s.size := by omega
      exact ⟨by omega, hp, by omega, this⟩
    · cases h
theorem readL_yes {s : ByteArray} {n : Int} {fl : Bool} {f e : Nat} {l : List ByteArray} {o : Bool} (he : e ≤ s.size) (h : (nextS s e n fl).2.2 = true) (hf : s.size - e < f) :
    ∃ f', readL s n fl f e l o = readL s n fl f' (partN s (nextS s e n fl).1 fl) (l ++ List.replicate (nextS s e n fl).2.1 ByteArray.empty ++ [s.extract (nextS s e n fl).1 (partN s (nextS s e n fl).1 fl)]) false ∧ s.size - partN s (nextS s e n fl).1 fl < f' := by
  obtain ⟨f', rfl⟩ : ∃ f', f = f' + 1 := ⟨f - 1, by omega⟩
  have := next_is he h
  exact ⟨f', by rw [readL, if_pos h], by omega⟩
/-- A colon that ends a part, behind a place. -/
def colonB (s : ByteArray) (e : Nat) : Bool := decide (firstN s e s.size < s.size) && bt s (firstN s e s.size) == 58 && stopsB s (firstN s e s.size) false
/-- The plain scalar at a place: its text, where it ends, is it of one part, a code. -/
def readS (s : ByteArray) (k : Nat) (n : Int) (fl : Bool) : ByteArray × Nat × Bool × Int :=
  if beginsB s k fl = true then
    if !fl && !(readL s n fl (s.size + 1) (partN s k fl) [s.extract k (partN s k fl)] true).2.2 && colonB s (readL s n fl (s.size + 1) (partN s k fl) [s.extract k (partN s k fl)] true).1 then
      (ByteArray.empty, firstN s (readL s n fl (s.size + 1) (partN s k fl) [s.extract k (partN s k fl)] true).1 s.size, false, 5)
    else (foldFlow (readL s n fl (s.size + 1) (partN s k fl) [s.extract k (partN s k fl)] true).2.1, (readL s n fl (s.size + 1) (partN s k fl) [s.extract k (partN s k fl)] true).1, (readL s n fl (s.size + 1) (partN s k fl) [s.extract k (partN s k fl)] true).2.2, 0)
  else (ByteArray.empty, k, false, 5)
theorem sumZ_app (xs ys : List ByteArray) : ∀ j, sumZ (xs ++ ys) (xs.length + j) = sumZ xs xs.length + sumZ ys j
  | 0 => by
    rw [Nat.add_zero]
    have : ∀ i, i ≤ xs.length → sumZ (xs ++ ys) i = sumZ xs i := by
      intro i
      induction i with
      | zero => intro _; rfl
      | succ i ih =>
        intro h
        have e : rowAt (xs ++ ys) i = rowAt xs i := by
          unfold rowAt
          rw [List.getD_eq_getElem?_getD, List.getD_eq_getElem?_getD, List.getElem?_append_left (by omega)]
        rw [sumZ, sumZ, ih (by omega), e]
    rw [this _ (Nat.le_refl _)]; rfl
  | j + 1 => by
    have e : rowAt (xs ++ ys) (xs.length + j) = rowAt ys j := by
      unfold rowAt
      rw [List.getD_eq_getElem?_getD, List.getD_eq_getElem?_getD, List.getElem?_append_right (by omega), Nat.add_sub_cancel_left]
    rw [← Nat.add_assoc, sumZ, sumZ, sumZ_app xs ys j, e]; omega
def sumA (xs : List ByteArray) : Nat := sumZ xs xs.length
theorem sumA_app (xs ys : List ByteArray) : sumA (xs ++ ys) = sumA xs + sumA ys := by
  unfold sumA; rw [List.length_append, sumZ_app]
theorem sumA_one (x : ByteArray) : sumA [x] = x.size + 1 := by show 0 + x.size + 1 = _; omega
theorem sumA_rep : ∀ n, sumA (List.replicate n ByteArray.empty) = n
  | 0 => rfl
  | n + 1 => by rw [List.replicate_succ', sumA_app, sumA_rep n, sumA_one]; rfl
theorem len_sumA (xs : List ByteArray) : xs.length ≤ sumA xs := sumZ_ge xs xs.length
end Bk
end Go.Proofs.Ytmmhpejnfkienaa
