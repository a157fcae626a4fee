/- Scans over places, and what rows of a text are: plain functions, no program in sight. -/
import Derived.PlainAid
namespace Go.Proofs.Ytmmhpejnfkienaa
open Go Go.RowKit Go.PlainAid
namespace Bk
/-- How many places from k on, at most f, have p. -/
def runP (p : Nat → Bool) : Nat → Nat → Nat
  | 0, _ => 0
  | f + 1, k => if p k then runP p f (k + 1) + 1 else 0
theorem runP_le (p : Nat → Bool) : ∀ f k, runP p f k ≤ f
  | 0, _ => Nat.le_refl _
  | f + 1, k => by
    unfold runP
    split
    · have := runP_le p f (k + 1); omega
    · omega
theorem runP_all (p : Nat → Bool) : ∀ f k j, j < runP p f k → p (k + j) = true
  | 0, k, j, h => by simp [runP] at h
  | f + 1, k, j, h => by
    unfold runP at h
    split at h
    · rename_i hp
      cases j with
      | zero => exact hp
      | succ j => have := runP_all p f (k + 1) j (by omega); rw [show k + (j + 1) = k + 1 + j from by omega]; exact this
    · omega
theorem runP_end (p : Nat → Bool) : ∀ f k, runP p f k < f → p (k + runP p f k) = false
  | 0, k, h => by simp [runP] at h
  | f + 1, k, h => by
    unfold runP at h ⊢
    split
    · rename_i hp
      rw [if_pos hp] at h
      have := runP_end p f (k + 1) (by omega)
      rw [show k + (runP p f (k + 1) + 1) = k + 1 + runP p f (k + 1) from by omega]; exact this
    · rename_i hp; simpa using hp
theorem runP_eq {p : Nat → Bool} {f k n : Nat} (h : n ≤ f) (h1 : ∀ j, j < n → p (k + j) = true) (h2 : n < f → p (k + n) = false) : runP p f k = n := by
  have a := runP_le p f k
  rcases Nat.lt_trichotomy (runP p f k) n with h3 | h3 | h3
  · have := runP_end p f k (by omega); rw [h1 _ h3] at this; exact absurd this (by decide)
  · exact h3
  · have b := runP_all p f k n h3; rw [h2 (by omega)] at b; exact absurd b (by decide)
theorem runP_congr {p q : Nat → Bool} {f k : Nat} (h : ∀ j, j < f → p (k + j) = q (k + j)) : runP p f k = runP q f k := by
  refine runP_eq (runP_le q f k) (fun j hj => ?_) (fun hj => ?_)
  · rw [h j (by have := runP_le q f k; omega)]; exact runP_all q f k j hj
  · rw [h _ hj]; exact runP_end q f k hj
/-- The least place up to k from which on all places have p. -/
def backP (p : Nat → Bool) : Nat → Nat
  | 0 => 0
  | k + 1 => if p k then backP p k else k + 1
theorem backP_le (p : Nat → Bool) : ∀ k, backP p k ≤ k
  | 0 => Nat.le_refl _
  | k + 1 => by
    unfold backP
    split
    · have := backP_le p k; omega
    · omega
theorem backP_all (p : Nat → Bool) : ∀ k j, backP p k ≤ j → j < k → p j = true
  | 0, j, _, h => by omega
  | k + 1, j, h0, h => by
    unfold backP at h0
    split at h0
    · rename_i hp
      by_cases e : j = k
      · subst e; exact hp
      · exact backP_all p k j h0 (by omega)
    · omega
theorem backP_end (p : Nat → Bool) : ∀ k, 0 < backP p k → p (backP p k - 1) = false
  | 0, h => by simp [backP] at h
  | k + 1, h => by
    unfold backP at h ⊢
    split
    · rename_i hp; rw [if_pos hp] at h; exact backP_end p k h
    · rename_i hp; simpa using hp
theorem backP_eq {p : Nat → Bool} {k n : Nat} (h : n ≤ k) (h1 : ∀ j, n ≤ j → j < k → p j = true) (h2 : 0 < n → p (n - 1) = false) : backP p k = n := by
  have a := backP_le p k
  rcases Nat.lt_trichotomy (backP p k) n with h3 | h3 | h3
  · have := backP_all p k (n - 1) (by omega) (by omega); rw [h2 (by omega)] at this; exact absurd this (by decide)
  · exact h3
  · have b := backP_end p k (by omega); rw [h1 _ (by omega) (by omega)] at b; exact absurd b (by decide)
/-- Is no line feed at a place? -/
def notFeed (s : ByteArray) (k : Nat) : Bool := bt s k != 10
/-- A place held to a text. -/
def heldN (s : ByteArray) (a : Int) : Nat := min a.toNat s.size
theorem heldN_le (s : ByteArray) (a : Int) : heldN s a ≤ s.size := Nat.min_le_right _ _
/-- Where the row of place k begins, and where it ends. -/
def fromN (s : ByteArray) (k : Nat) : Nat := backP (notFeed s) k
def toN (s : ByteArray) (k : Nat) : Nat := k + runP (notFeed s) (s.size - k) k
theorem fromN_le (s : ByteArray) (k : Nat) : fromN s k ≤ k := backP_le _ _
theorem toN_ge (s : ByteArray) (k : Nat) : k ≤ toN s k := Nat.le_add_right _ _
theorem toN_le {s : ByteArray} {k : Nat} (h : k ≤ s.size) : toN s k ≤ s.size := by
  unfold toN; have := runP_le (notFeed s) (s.size - k) k; omega
theorem toN_eq {s : ByteArray} {k n : Nat} (h : k ≤ n) (h0 : n ≤ s.size) (h1 : ∀ j, k ≤ j → j < n → bt s j ≠ 10) (h2 : n < s.size → bt s n = 10) : toN s k = n := by
  unfold toN
  have : runP (notFeed s) (s.size - k) k = n - k := by
    refine runP_eq (by omega) (fun j hj => ?_) (fun hj => ?_)
    · unfold notFeed; simpa using h1 (k + j) (by omega) (by omega)
    · unfold notFeed; rw [show k + (n - k) = n from by omega]; simpa using h2 (by omega)
  omega
theorem fromN_eq {s : ByteArray} {k n : Nat} (h : n ≤ k) (h1 : ∀ j, n ≤ j → j < k → bt s j ≠ 10) (h2 : 0 < n → bt s (n - 1) = 10) : fromN s k = n := by
  refine backP_eq h (fun j a b => ?_) (fun a => ?_)
  · unfold notFeed; simpa using h1 j a b
  · unfold notFeed; simpa using h2 a
theorem fromN_all {s : ByteArray} {k j : Nat} (h : fromN s k ≤ j) (h1 : j < k) : bt s j ≠ 10 := by
  have := backP_all (notFeed s) k j h h1; unfold notFeed at this; simpa using this
theorem fromN_end {s : ByteArray} {k : Nat} (h : 0 < fromN s k) : bt s (fromN s k - 1) = 10 := by
  have := backP_end (notFeed s) k h
  change (bt s (fromN s k - 1) != 10) = false at this
  simpa using this
theorem toN_all {s : ByteArray} {k j : Nat} (h : k ≤ j) (h1 : j < toN s k) : bt s j ≠ 10 := by
  unfold toN at h1
  have := runP_all (notFeed s) (s.size - k) k (j - k) (by omega); unfold notFeed at this
  rw [show k + (j - k) = j from by omega] at this; simpa using this
theorem toN_end {s : ByteArray} {k : Nat} (h : toN s k < s.size) : bt s (toN s k) = 10 := by
  unfold toN at h ⊢
  have := runP_end (notFeed s) (s.size - k) k (by omega)
  change (bt s (k + runP (notFeed s) (s.size - k) k) != 10) = false at this
  simpa using this
def whiteB (c : Int) : Bool := c == 32 || c == 9
def flowB (c : Int) : Bool := c == 44 || c == 91 || c == 93 || c == 123 || c == 125
/-- Nothing but white, or a row's end, stands at a place. -/
def endsB (s : ByteArray) (a : Int) : Bool := decide (a < 0) || decide ((s.size : Int) ≤ a) || whiteB (bt s a.toNat) || bt s a.toNat == 10
theorem ends_in {s : ByteArray} {k : Nat} (h : k < s.size) : endsB s (k : Int) = (whiteB (bt s k) || bt s k == 10) := by
  unfold endsB
  rw [decide_eq_false (by omega), decide_eq_false (by omega), Int.toNat_natCast]; rfl
theorem ends_out {s : ByteArray} {a : Int} (h : a < 0 ∨ (s.size : Int) ≤ a) : endsB s a = true := by
  unfold endsB
  rcases h with h | h
  · rw [decide_eq_true h]; rfl
  · rw [decide_eq_true h]; simp
/-- How many blanks stand at the beginning of a place's row. -/
def inN (s : ByteArray) (k : Nat) : Nat := runP (fun i => bt s i == 32) (toN s k - fromN s k) (fromN s k)
/-- The first place from one on, up to another, that is not white. -/
def firstN (s : ByteArray) (k m : Nat) : Nat := k + runP (fun i => whiteB (bt s i)) (m - k) k
theorem firstN_le {s : ByteArray} {k m : Nat} (h : k ≤ m) : firstN s k m ≤ m := by
  unfold firstN; have := runP_le (fun i => whiteB (bt s i)) (m - k) k; omega
theorem firstN_ge (s : ByteArray) (k m : Nat) : k ≤ firstN s k m := Nat.le_add_right _ _
theorem firstN_all {s : ByteArray} {k m j : Nat} (h : k ≤ j) (h1 : j < firstN s k m) : whiteB (bt s j) = true := by
  unfold firstN at h1
  have := runP_all (fun i => whiteB (bt s i)) (m - k) k (j - k) (by omega)
  rw [show k + (j - k) = j from by omega] at this; exact this
theorem firstN_end {s : ByteArray} {k m : Nat} (h : firstN s k m < m) : whiteB (bt s (firstN s k m)) = false := by
  unfold firstN at h ⊢
  exact runP_end (fun i => whiteB (bt s i)) (m - k) k (by omega)
theorem firstN_eq {s : ByteArray} {k m n : Nat} (h : k ≤ n) (h0 : n ≤ m) (h1 : ∀ j, k ≤ j → j < n → whiteB (bt s j) = true) (h2 : n < m → whiteB (bt s n) = false) : firstN s k m = n := by
  unfold firstN
  have : runP (fun i => whiteB (bt s i)) (m - k) k = n - k := by
    refine runP_eq (by omega) (fun j hj => h1 (k + j) (by omega) (by omega)) (fun hj => ?_)
    rw [show k + (n - k) = n from by omega]; exact h2 (by omega)
  omega
/-- Does a mark of three bytes c stand at place k? -/
def dash3 (s : ByteArray) (k : Nat) (c : Int) : Bool := decide (k + 3 ≤ s.size) && bt s k == c && bt s (k + 1) == c && bt s (k + 2) == c
def markB (s : ByteArray) (k : Nat) (c : Int) : Bool := dash3 s k c && endsB s ((k : Int) + 3)
/-- The kind of the row of a place. -/
def kindN (s : ByteArray) (k : Nat) : Int :=
  if markB s (fromN s k) 45 then 3 else if markB s (fromN s k) 46 then 4
  else if firstN s (fromN s k) (toN s k) = toN s k then 1 else if bt s (firstN s (fromN s k) (toN s k)) = 35 then 2 else 5
/-- How many blank rows stand right above a row that begins at a place. -/
def aboveL (s : ByteArray) : Nat → Nat → Nat
  | 0, _ => 0
  | f + 1, k => if k = 0 then 0 else if kindN s (fromN s (k - 1)) = 1 then aboveL s f (fromN s (k - 1)) + 1 else 0
def aboveN (s : ByteArray) (k : Nat) : Nat := if firstN s (fromN s k) k < k then 0 else aboveL s s.size (fromN s k)
theorem aboveL_le (s : ByteArray) : ∀ f k, aboveL s f k ≤ k
  | 0, _ => Nat.zero_le _
  | f + 1, k => by
    unfold aboveL
    split
    · omega
    · split
      · have h1 := aboveL_le s f (fromN s (k - 1)); have h2 := fromN_le s (k - 1); omega
      · omega
end Bk
end Go.Proofs.Ytmmhpejnfkienaa
