/- Scans over places, and what rows of a text are: plain functions, no program in sight. -/
import Derived.PlainAid
import Derived.Test.YtlmjabnkjmfcmaaGreatProg
import Derived.WalkKit
import Derived.WalkSpells
import Derived.WalkLawsBesides
import Derived.Handy
import Derived.Outline
import Derived.Lib.Hide
import Derived.Shelf.Strings.Repeat
import Derived.Shelf.Strings.LastIndex
import Derived.Shelf.Strings.Search1
import Derived.Lib.Builder
import Derived.Lib.IndexLaws
import Derived.BigQuiet
import Derived.Laws.RangeAny
import Derived.Laws.AppendOwnNone
import Derived.Lib.AppendZerosOnto
import Derived.Deep.RegionLaw
namespace Go.Proofs.YtlmjabnkjmfcmaaGreat
open Go Go.RowKit Go.PlainAid
namespace Bk
/-- How many places from k on, at most f, have p. -/
def runP (p : Nat → Bool) : Nat → Nat → Nat
  | 0, _ => 0
  | f + 1, k => if p k then runP p f (k + 1) + 1 else 0
theorem runP_le (p : Nat → Bool) : ∀ f k, runP p f k ≤ f
  | 0, _ => Nat.le_refl _
  | f + 1, k => by
    unfold runP
    split
    · have := runP_le p f (k + 1); omega
    · omega
theorem runP_all (p : Nat → Bool) : ∀ f k j, j < runP p f k → p (k + j) = true
  | 0, k, j, h => by simp [runP] at h
  | f + 1, k, j, h => by
    unfold runP at h
    split at h
    · rename_i hp
      cases j with
      | zero => exact hp
      | succ j => have := runP_all p f (k + 1) j (by omega); rw [show k + (j + 1) = k + 1 + j from by omega]; exact this
    · omega
theorem runP_end (p : Nat → Bool) : ∀ f k, runP p f k < f → p (k + runP p f k) = false
  | 0, k, h => by simp [runP] at h
  | f + 1, k, h => by
    unfold runP at h ⊢
    split
    · rename_i hp
      rw [if_pos hp] at h
      have := runP_end p f (k + 1) (by omega)
      rw [show k + (runP p f (k + 1) + 1) = k + 1 + runP p f (k + 1) from by omega]; exact this
    · rename_i hp; simpa using hp
theorem runP_eq {p : Nat → Bool} {f k n : Nat} (h : n ≤ f) (h1 : ∀ j, j < n → p (k + j) = true) (h2 : n < f → p (k + n) = false) : runP p f k = n := by
  have a := runP_le p f k
  rcases Nat.lt_trichotomy (runP p f k) n with h3 | h3 | h3
  · have := runP_end p f k (by omega); rw [h1 _ h3] at this; exact absurd this (by decide)
  · exact h3
  · have b := runP_all p f k n h3; rw [h2 (by omega)] at b; exact absurd b (by decide)
theorem runP_congr {p q : Nat → Bool} {f k : Nat} (h : ∀ j, j < f → p (k + j) = q (k + j)) : runP p f k = runP q f k := by
  refine runP_eq (runP_le q f k) (fun j hj => ?_) (fun hj => ?_)
  · rw [h j (by have := runP_le q f k; omega)]; exact runP_all q f k j hj
  · rw [h _ hj]; exact runP_end q f k hj
/-- The least place up to k from which on all places have p. -/
def backP (p : Nat → Bool) : Nat → Nat
  | 0 => 0
  | k + 1 => if p k then backP p k else k + 1
theorem backP_le (p : Nat → Bool) : ∀ k, backP p k ≤ k
  | 0 => Nat.le_refl _
  | k + 1 => by
    unfold backP
    split
    · have := backP_le p k; omega
    · omega
theorem backP_all (p : Nat → Bool) : ∀ k j, backP p k ≤ j → j < k → p j = true
  | 0, j, _, h => by omega
  | k + 1, j, h0, h => by
    unfold backP at h0
    split at h0
    · rename_i hp
      by_cases e : j = k
      · subst e; exact hp
      · exact backP_all p k j h0 (by omega)
    · omega
theorem backP_end (p : Nat → Bool) : ∀ k, 0 < backP p k → p (backP p k - 1) = false
  | 0, h => by simp [backP] at h
  | k + 1, h => by
    unfold backP at h ⊢
    split
    · rename_i hp; rw [if_pos hp] at h; exact backP_end p k h
    · rename_i hp; simpa using hp
theorem backP_eq {p : Nat → Bool} {k n : Nat} (h : n ≤ k) (h1 : ∀ j, n ≤ j → j < k → p j = true) (h2 : 0 < n → p (n - 1) = false) : backP p k = n := by
  have a := backP_le p k
  rcases Nat.lt_trichotomy (backP p k) n with h3 | h3 | h3
  · have := backP_all p k (n - 1) (by omega) (by omega); rw [h2 (by omega)] at this; exact absurd this (by decide)
  · exact h3
  · have b := backP_end p k (by omega); rw [h1 _ (by omega) (by omega)] at b; exact absurd b (by decide)
/-- Is no line feed at a place? -/
def notFeed (s : ByteArray) (k : Nat) : Bool := bt s k != 10
/-- A place held to a text. -/
def heldN (s : ByteArray) (a : Int) : Nat := min a.toNat s.size
theorem heldN_le (s : ByteArray) (a : Int) : heldN s a ≤ s.size := Nat.min_le_right _ _
/-- Where the row of place k begins, and where it ends. -/
def fromN (s : ByteArray) (k : Nat) : Nat := backP (notFeed s) k
def toN (s : ByteArray) (k : Nat) : Nat := k + runP (notFeed s) (s.size - k) k
theorem fromN_le (s : ByteArray) (k : Nat) : fromN s k ≤ k := backP_le _ _
theorem toN_ge (s : ByteArray) (k : Nat) : k ≤ toN s k := Nat.le_add_right _ _
theorem toN_le {s : ByteArray} {k : Nat} (h : k ≤ s.size) : toN s k ≤ s.size := by
  unfold toN; have := runP_le (notFeed s) (s.size - k) k; omega
theorem toN_eq {s : ByteArray} {k n : Nat} (h : k ≤ n) (h0 : n ≤ s.size) (h1 : ∀ j, k ≤ j → j < n → bt s j ≠ 10) (h2 : n < s.size → bt s n = 10) : toN s k = n := by
  unfold toN
  have : runP (notFeed s) (s.size - k) k = n - k := by
    refine runP_eq (by omega) (fun j hj => ?_) (fun hj => ?_)
    · unfold notFeed; simpa using h1 (k + j) (by omega) (by omega)
    · unfold notFeed; rw [show k + (n - k) = n from by omega]; simpa using h2 (by omega)
  omega
theorem fromN_eq {s : ByteArray} {k n : Nat} (h : n ≤ k) (h1 : ∀ j, n ≤ j → j < k → bt s j ≠ 10) (h2 : 0 < n → bt s (n - 1) = 10) : fromN s k = n := by
  refine backP_eq h (fun j a b => ?_) (fun a => ?_)
  · unfold notFeed; simpa using h1 j a b
  · unfold notFeed; simpa using h2 a
theorem fromN_all {s : ByteArray} {k j : Nat} (h : fromN s k ≤ j) (h1 : j < k) : bt s j ≠ 10 := by
  have := backP_all (notFeed s) k j h h1; unfold notFeed at this; simpa using this
theorem fromN_end {s : ByteArray} {k : Nat} (h : 0 < fromN s k) : bt s (fromN s k - 1) = 10 := by
  have := backP_end (notFeed s) k h
  change (bt s (fromN s k - 1) != 10) = false at this
  simpa using this
theorem toN_all {s : ByteArray} {k j : Nat} (h : k ≤ j) (h1 : j < toN s k) : bt s j ≠ 10 := by
  unfold toN at h1
  have := runP_all (notFeed s) (s.size - k) k (j - k) (by omega); unfold notFeed at this
  rw [show k + (j - k) = j from by omega] at this; simpa using this
theorem toN_end {s : ByteArray} {k : Nat} (h : toN s k < s.size) : bt s (toN s k) = 10 := by
  unfold toN at h ⊢
  have := runP_end (notFeed s) (s.size - k) k (by omega)
  change (bt s (k + runP (notFeed s) (s.size - k) k) != 10) = false at this
  simpa using this
def whiteB (c : Int) : Bool := c == 32 || c == 9
def flowB (c : Int) : Bool := c == 44 || c == 91 || c == 93 || c == 123 || c == 125
/-- Nothing but white, or a row's end, stands at a place. -/
def endsB (s : ByteArray) (a : Int) : Bool := decide (a < 0) || decide ((s.size : Int) ≤ a) || whiteB (bt s a.toNat) || bt s a.toNat == 10
theorem ends_in {s : ByteArray} {k : Nat} (h : k < s.size) : endsB s (k : Int) = (whiteB (bt s k) || bt s k == 10) := by
  unfold endsB
  rw [decide_eq_false (by omega), decide_eq_false (by omega), Int.toNat_natCast]; rfl
theorem ends_out {s : ByteArray} {a : Int} (h : a < 0 ∨ (s.size : Int) ≤ a) : endsB s a = true := by
  unfold endsB
  rcases h with h | h
  · rw [decide_eq_true h]; rfl
  · rw [decide_eq_true h]; simp
/-- How many blanks stand at the beginning of a place's row. -/
def inN (s : ByteArray) (k : Nat) : Nat := runP (fun i => bt s i == 32) (toN s k - fromN s k) (fromN s k)
/-- The first place from one on, up to another, that is not white. -/
def firstN (s : ByteArray) (k m : Nat) : Nat := k + runP (fun i => whiteB (bt s i)) (m - k) k
theorem firstN_le {s : ByteArray} {k m : Nat} (h : k ≤ m) : firstN s k m ≤ m := by
  unfold firstN; have := runP_le (fun i => whiteB (bt s i)) (m - k) k; omega
theorem firstN_ge (s : ByteArray) (k m : Nat) : k ≤ firstN s k m := Nat.le_add_right _ _
theorem firstN_all {s : ByteArray} {k m j : Nat} (h : k ≤ j) (h1 : j < firstN s k m) : whiteB (bt s j) = true := by
  unfold firstN at h1
  have := runP_all (fun i => whiteB (bt s i)) (m - k) k (j - k) (by omega)
  rw [show k + (j - k) = j from by omega] at this; exact this
theorem firstN_end {s : ByteArray} {k m : Nat} (h : firstN s k m < m) : whiteB (bt s (firstN s k m)) = false := by
  unfold firstN at h ⊢
  exact runP_end (fun i => whiteB (bt s i)) (m - k) k (by omega)
theorem firstN_eq {s : ByteArray} {k m n : Nat} (h : k ≤ n) (h0 : n ≤ m) (h1 : ∀ j, k ≤ j → j < n → whiteB (bt s j) = true) (h2 : n < m → whiteB (bt s n) = false) : firstN s k m = n := by
  unfold firstN
  have : runP (fun i => whiteB (bt s i)) (m - k) k = n - k := by
    refine runP_eq (by omega) (fun j hj => h1 (k + j) (by omega) (by omega)) (fun hj => ?_)
    rw [show k + (n - k) = n from by omega]; exact h2 (by omega)
  omega
/-- Does a mark of three bytes c stand at place k? -/
def dash3 (s : ByteArray) (k : Nat) (c : Int) : Bool := decide (k + 3 ≤ s.size) && bt s k == c && bt s (k + 1) == c && bt s (k + 2) == c
def markB (s : ByteArray) (k : Nat) (c : Int) : Bool := dash3 s k c && endsB s ((k : Int) + 3)
/-- The kind of the row of a place. -/
def kindN (s : ByteArray) (k : Nat) : Int :=
  if markB s (fromN s k) 45 then 3 else if markB s (fromN s k) 46 then 4
  else if firstN s (fromN s k) (toN s k) = toN s k then 1 else if bt s (firstN s (fromN s k) (toN s k)) = 35 then 2 else 5
/-- How many blank rows stand right above a row that begins at a place. -/
def aboveL (s : ByteArray) : Nat → Nat → Nat
  | 0, _ => 0
  | f + 1, k => if k = 0 then 0 else if kindN s (fromN s (k - 1)) = 1 then aboveL s f (fromN s (k - 1)) + 1 else 0
def aboveN (s : ByteArray) (k : Nat) : Nat := if firstN s (fromN s k) k < k then 0 else aboveL s s.size (fromN s k)
theorem aboveL_le (s : ByteArray) : ∀ f k, aboveL s f k ≤ k
  | 0, _ => Nat.zero_le _
  | f + 1, k => by
    unfold aboveL
    split
    · omega
    · split
      · have h1 := aboveL_le s f (fromN s (k - 1)); have h2 := fromN_le s (k - 1); omega
      · omega
end Bk
end Go.Proofs.YtlmjabnkjmfcmaaGreat
/- The functions of package sign, and the reference's own, return what a byte is: contracts. -/
namespace Go.Proofs.YtlmjabnkjmfcmaaGreat
open Go Go.RowKit Go.PlainAid
namespace Bk
/-- A byte of a text, as a number; nothing of it can be seen through. -/
def hasB (l : ByteArray) (c : Int) : Bool := l.data.toList.any fun b => (b.toNat : Int) == c
theorem hasB_yes {l : ByteArray} {c : Int} {k : Nat} (h : k < l.size) (e : bt l k = c) : hasB l c = true := by
  unfold hasB
  rw [List.any_eq_true]
  refine ⟨l[k], ?_, ?_⟩
  · exact Array.mem_toList_iff.2 (Array.getElem_mem h)
  · have := get_bt l k h
    simp [this, e]
theorem hasB_no {l : ByteArray} {c : Int} (h : ∀ k, k < l.size → bt l k ≠ c) : hasB l c = false := by
  unfold hasB
  rw [List.any_eq_false]
  intro b hb
  obtain ⟨k, hk, rfl⟩ := Array.getElem_of_mem (Array.mem_toList_iff.1 hb)
  have h1 := h k hk
  have h2 := get_bt l k hk
  simp only [beq_iff_eq]
  intro h3
  exact h1 (by rw [← h2]; exact h3)
theorem has_list (l : List UInt8) (c : Int) : hasB ⟨l.toArray⟩ c = (l.map fun b => (b.toNat : Int)).contains c := by
  unfold hasB
  rw [Bool.eq_iff_iff]
  simp [List.any_eq_true]
def indB (c : Int) : Bool := [45, 63, 58, 35, 38, 42, 33, 124, 62, 39, 34, 37, 64, 96].contains c || flowB c
def wordB (c : Int) : Bool := decide (97 ≤ c ∧ c ≤ 122) || decide (65 ≤ c ∧ c ≤ 90) || decide (48 ≤ c ∧ c ≤ 57) || c == 45
def uriB (c : Int) : Bool := [35, 59, 47, 63, 58, 64, 38, 61, 43, 36, 95, 46, 33, 126, 42, 39, 40, 41, 37, 44, 91, 93].contains c || wordB c
theorem has_ind (c : Int) : hasB ⟨#[45, 63, 58, 44, 91, 93, 123, 125, 35, 38, 42, 33, 124, 62, 39, 34, 37, 64, 96]⟩ c = indB c := by
  rw [has_list [45, 63, 58, 44, 91, 93, 123, 125, 35, 38, 42, 33, 124, 62, 39, 34, 37, 64, 96]]
  rw [Bool.eq_iff_iff]; simp [indB, flowB]; omega
end Bk
theorem ret_bool {a b : Bool} (h : a = b) : Ending.returned (.bool a) = .returned (.bool b) := by rw [h]
set_option maxHeartbeats 400000 in
theorem rwhite_any (c : Int) (w : World) :
    Calls Tryz.prog 63 #[.int .u8 c] w fun e w' => e = .returned (.bool (Bk.whiteB c)) ∧ w = w' := by
  go_enter Tryz.func63, Tryz.ntmps63
  go_wp2
  all_goals (go_ret; refine ⟨?_, rfl⟩; simp_all [Bk.whiteB])
set_option maxHeartbeats 400000 in
theorem rhas_any (l : ByteArray) (c : Int) (w : World) (hs : l.size ≤ 4611686018427387904) :
    Calls Tryz.prog 109 #[.string l, .int .u8 c] w fun e w' => e = .returned (.bool (Bk.hasB l c)) ∧ w = w' := by
  have hb := get_bt l
  go_enter Tryz.func109, Tryz.ntmps109
  go_wp2
  go_loop [5] (fun i => ∃ k : Nat, k ≤ l.size ∧ i = .int .i64 k ∧ ∀ j, j < k → bt l j ≠ c) (fun i => l.size - (intOf i).toNat)
  case atStart => exact ⟨0, Nat.zero_le _, rfl, fun j h => absurd h (by omega)⟩
  case round =>
    obtain ⟨k, hk, rfl, hall⟩ := hrel
    have H := Lib.hid hall; clear hall
    by_cases hlt : k < l.size
    · by_cases hc : bt l k = c
      · have HY := Lib.hid (Bk.hasB_yes hlt hc)
        subst hc
        go_wp2
        go_ret
        exact ⟨ret_bool HY.out.symm, rfl⟩
      · have h1 : (bt l k == c) = false := by simp [hc]
        have hc' := Lib.hid hc; clear hc
        go_wp2
        go_round
        case rel =>
          refine ⟨k + 1, by omega, by go_num, ?_⟩
          intro j hj
          by_cases e : j = k
          · subst e; exact hc'.out
          · exact H.out j (by omega)
        case measure => simp [intOf]; omega
    · have HN := Lib.hid (Bk.hasB_no (l := l) (c := c) (fun j hj => H.out j (by omega)))
      go_wp2
      go_ret
      exact ⟨ret_bool HN.out.symm, rfl⟩
theorem rind_any (c : Int) (w : World) :
    Calls Tryz.prog 142 #[.int .u8 c] w fun e w' => e = .returned (.bool (Bk.indB c)) ∧ w = w' := by
  go_enter Tryz.func142, Tryz.ntmps142
  go_wp2_with (go_at_call 109; refine (rhas_any _ _ _ (by decide)).mono ?_; rintro e w' ⟨rfl, rfl⟩)
  go_ret
  exact ⟨ret_bool (Bk.has_ind c), rfl⟩
end Go.Proofs.YtlmjabnkjmfcmaaGreat
/- Ends and Name of package sign, and of the reference: contracts. -/
namespace Go.Proofs.YtlmjabnkjmfcmaaGreat
open Go Go.RowKit Go.PlainAid
namespace Bk
theorem has_flow (c : Int) : hasB ⟨#[44, 91, 93, 123, 125]⟩ c = flowB c := by
  rw [has_list [44, 91, 93, 123, 125]]
  rw [Bool.eq_iff_iff]; simp [flowB]; omega
theorem has_uri (c : Int) : hasB ⟨#[35, 59, 47, 63, 58, 64, 38, 61, 43, 36, 95, 46, 33, 126, 42, 39, 40, 41, 37, 44, 91, 93]⟩ c = [35, 59, 47, 63, 58, 64, 38, 61, 43, 36, 95, 46, 33, 126, 42, 39, 40, 41, 37, 44, 91, 93].contains c := by
  rw [has_list [35, 59, 47, 63, 58, 64, 38, 61, 43, 36, 95, 46, 33, 126, 42, 39, 40, 41, 37, 44, 91, 93]]
  rfl
def stopB (c : Int) : Bool := whiteB c || c == 10 || flowB c
/-- How many bytes from place k on stop no name. -/
def runN (s : ByteArray) : Nat → Nat → Nat
  | 0, _ => 0
  | f + 1, k => if k < s.size ∧ stopB (bt s k) = false then runN s f (k + 1) + 1 else 0
def nameN (s : ByteArray) (a : Int) : Nat := if a < 0 then 0 else runN s s.size a.toNat
theorem runN_eq (s : ByteArray) : ∀ (n f k : Nat), n ≤ f → (∀ j, j < n → k + j < s.size ∧ stopB (bt s (k + j)) = false) → (k + n < s.size → stopB (bt s (k + n)) = true) → (n = f → s.size ≤ k + n) → runN s f k = n
  | 0, 0, k, _, _, _, _ => rfl
  | 0, f + 1, k, _, _, h2, _ => by
    unfold runN
    rw [if_neg]
    intro h
    have := h2 (by omega)
    simp only [Nat.add_zero] at this
    rw [this] at h
    exact absurd h.2 (by simp)
  | n + 1, 0, k, h, _, _, _ => by omega
  | n + 1, f + 1, k, h, h1, h2, h3 => by
    unfold runN
    have a := h1 0 (by omega)
    simp only [Nat.add_zero] at a
    rw [if_pos a, runN_eq s n f (k + 1) (by omega) (fun j hj => by have := h1 (j + 1) (by omega); rw [show k + 1 + j = k + (j + 1) from by omega]; exact this)
      (fun hh => by rw [show k + 1 + n = k + (n + 1) from by omega] at hh ⊢; exact h2 hh) (fun e => by have := h3 (by omega); omega)]
theorem nameN_eq {s : ByteArray} {k n : Nat} (h1 : ∀ j, j < n → k + j < s.size ∧ stopB (bt s (k + j)) = false) (h2 : k + n < s.size → stopB (bt s (k + n)) = true) : nameN s (k : Int) = n := by
  unfold nameN
  rw [if_neg (by omega), Int.toNat_natCast]
  have hle : n ≤ s.size := by
    by_cases e : n = 0
    · omega
    · have := (h1 (n - 1) (by omega)).1; omega
  exact runN_eq s n s.size k hle h1 h2 (fun e => by omega)
end Bk
set_option maxHeartbeats 400000 in
theorem rflow_any (c : Int) (w : World) :
    Calls Tryz.prog 93 #[.int .u8 c] w fun e w' => e = .returned (.bool (Bk.flowB c)) ∧ w = w' := by
  go_enter Tryz.func93, Tryz.ntmps93
  go_wp2_with (go_at_call 109; refine (rhas_any _ _ _ (by decide)).mono ?_; rintro e w' ⟨rfl, rfl⟩)
  go_ret
  exact ⟨ret_bool (Bk.has_flow c), rfl⟩
set_option maxHeartbeats 400000 in
theorem rword_any (c : Int) (w : World) :
    Calls Tryz.prog 108 #[.int .u8 c] w fun e w' => e = .returned (.bool (Bk.wordB c)) ∧ w = w' := by
  go_enter Tryz.func108, Tryz.ntmps108
  go_wp2
  all_goals (go_ret; refine ⟨ret_bool ?_, rfl⟩; rw [Bool.eq_iff_iff]; simp [Bk.wordB]; omega)
set_option maxHeartbeats 400000 in
theorem ruri_any (c : Int) (w : World) :
    Calls Tryz.prog 95 #[.int .u8 c] w fun e w' => e = .returned (.bool (Bk.uriB c)) ∧ w = w' := by
  go_enter Tryz.func95, Tryz.ntmps95
  go_wp2_with first | (go_at_call 108; refine (rword_any _ _).mono ?_; rintro e w' ⟨rfl, rfl⟩) | (go_at_call 109; refine (rhas_any _ _ _ (by decide)).mono ?_; rintro e w' ⟨rfl, rfl⟩)
  all_goals (go_ret; refine ⟨ret_bool ?_, rfl⟩; simp_all [Bk.uriB, Bk.has_uri])
set_option maxHeartbeats 400000 in
theorem rends_any (s : ByteArray) (a : Int) (w : World) :
    Calls Tryz.prog 61 #[.string s, .int .i64 a] w fun e w' => e = .returned (.bool (Bk.endsB s a)) ∧ w = w' := by
  have hb := get_bt s
  by_cases h0 : a < 0
  · go_enter Tryz.func61, Tryz.ntmps61
    go_wp2
    go_ret
    exact ⟨ret_bool (by simp [Bk.endsB, h0]), rfl⟩
  · obtain ⟨k, rfl⟩ := Int.eq_ofNat_of_zero_le (by omega : 0 ≤ a)
    by_cases h1 : k < s.size
    · go_enter Tryz.func61, Tryz.ntmps61
      go_wp2_with (go_at_call 63; refine (rwhite_any _ _).mono ?_; rintro e w' ⟨rfl, rfl⟩)
      all_goals (go_ret; refine ⟨ret_bool ?_, rfl⟩; rw [Bool.eq_iff_iff]; simp [Bk.endsB, *]; try omega)
    · go_enter Tryz.func61, Tryz.ntmps61
      go_wp2
      go_ret
      exact ⟨ret_bool (by simp [Bk.endsB]; omega), rfl⟩
namespace Bk
theorem stop_of {s : ByteArray} {k : Nat} (h : k < s.size) : stopB (bt s k) = (endsB s (k : Int) || flowB (bt s k)) := by
  rw [ends_in h]; rfl
end Bk
end Go.Proofs.YtlmjabnkjmfcmaaGreat
/- The reference's Name; Low; Long: contracts. -/
namespace Go.Proofs.YtlmjabnkjmfcmaaGreat
open Go Go.RowKit Go.PlainAid
set_option maxHeartbeats 800000 in
theorem rname_any (s : ByteArray) (a : Int) (w : World) (hs : s.size ≤ 4611686018427387904) (ha' : a ≤ 9223372036854775807) :
    Calls Tryz.prog 122 #[.string s, .int .i64 a] w fun e w' => e = .returned (.int .i64 (Bk.nameN s a : Nat)) ∧ w = w' := by
  have hb := get_bt s
  by_cases h0 : a < 0
  · have HN : Hid (Bk.nameN s a = 0) := Lib.hid (by unfold Bk.nameN; rw [if_pos h0])
    go_enter Tryz.func122, Tryz.ntmps122
    go_wp2
    go_ret
    exact ⟨by rw [HN.out]; rfl, rfl⟩
  · obtain ⟨k, rfl⟩ := Int.eq_ofNat_of_zero_le (by omega : 0 ≤ a)
    have hd : decide ((k : Int) < 0) = false := by simp
    go_enter Tryz.func122, Tryz.ntmps122
    go_wp2
    go_loop [5] (fun i => ∃ n : Nat, (n = 0 ∨ k + n ≤ s.size) ∧ i = .int .i64 n ∧ Hid (∀ j, j < n → k + j < s.size ∧ Bk.stopB (bt s (k + j)) = false)) (fun i => s.size - (intOf i).toNat)
    case atStart => exact ⟨0, by omega, rfl, Lib.hid fun j h => absurd h (by omega)⟩
    case round =>
      obtain ⟨n, hn, rfl, H⟩ := hrel
      by_cases hlt : k + n < s.size
      · have HS := Lib.hid (Bk.stop_of hlt)
        cases hE : Bk.endsB s ((k : Int) + (n : Int)) with
        | true =>
          have HN := Lib.hid (Bk.nameN_eq H.out (fun _ => by rw [HS.out]; show (Bk.endsB s ((k : Int) + (n : Int)) || _) = true; rw [hE]; rfl))
          go_wp2_with (go_at_call 61; refine (rends_any _ _ _).mono ?_; rintro e w' ⟨rfl, rfl⟩)
          go_ret
          exact ⟨by rw [HN.out]; rfl, rfl⟩
        | false =>
          cases hF : Bk.flowB (bt s (k + n)) with
          | true =>
            have HN := Lib.hid (Bk.nameN_eq H.out (fun _ => by rw [HS.out, hF]; simp))
            go_wp2_with first | (go_at_call 61; refine (rends_any _ _ _).mono ?_; rintro e w' ⟨rfl, rfl⟩) | (go_at_call 93; refine (rflow_any _ _).mono ?_; rintro e w' ⟨rfl, rfl⟩)
            go_ret
            exact ⟨by rw [HN.out]; rfl, rfl⟩
          | false =>
            have HT := Lib.hid (show Bk.stopB (bt s (k + n)) = false by rw [HS.out]; show (Bk.endsB s ((k : Int) + (n : Int)) || _) = false; rw [hE, hF]; rfl)
            go_wp2_with first | (go_at_call 61; refine (rends_any _ _ _).mono ?_; rintro e w' ⟨rfl, rfl⟩) | (go_at_call 93; refine (rflow_any _ _).mono ?_; rintro e w' ⟨rfl, rfl⟩)
            go_round
            case rel =>
              refine ⟨n + 1, by omega, by go_num, Lib.hid fun j hj => ?_⟩
              by_cases e : j = n
              · subst e; exact ⟨hlt, HT.out⟩
              · exact H.out j (by omega)
            case measure => simp [intOf]; omega
      · have HN := Lib.hid (Bk.nameN_eq H.out (fun h => absurd h hlt))
        go_wp2
        go_ret
        exact ⟨by rw [HN.out]; rfl, rfl⟩
namespace Bk
/-- Two to the power of 64. -/
def two64 : Int := 18446744073709551616
/-- Low of chapter 0: a number from 0 to below n. -/
def lowN (x n : Int) : Nat := (x % two64 % n).toNat
theorem lowN_lt {x : Int} {n : Int} (h : 0 < n) : (lowN x n : Int) < n := by
  unfold lowN
  have h1 := Int.emod_nonneg (x % two64) (by omega : n ≠ 0)
  have h2 := Int.emod_lt_of_pos (x % two64) h
  omega
theorem low_walk {x n : Int} (hn : 1 ≤ n) (hn' : n ≤ 1000000000) : wrap64 ((IntKind.u64.wrap x).tmod n) = (lowN x n : Int) := by
  have hl := lowN_lt (x := x) (n := n) (by omega)
  have h0 : 0 ≤ IntKind.u64.wrap x := by rw [IntKind.wrap_u64]; omega
  rw [Int.tmod_eq_emod_of_nonneg h0]
  have e : IntKind.u64.wrap x % n = (lowN x n : Int) := by
    unfold lowN two64
    rw [IntKind.wrap_u64]
    have h1 := Int.emod_nonneg (x % 18446744073709551616) (by omega : n ≠ 0)
    omega
  rw [e]
  exact IntWalk.wrap64_in _ ⟨by omega, by omega⟩
end Bk
theorem ret_int {k : IntKind} {a b : Int} (h : a = b) : Ending.returned (.int k a) = .returned (.int k b) := by rw [h]
set_option maxHeartbeats 400000 in
theorem low_any (x n : Int) (w : World) (hn : 1 ≤ n) (hn' : n ≤ 1000000000) :
    Calls Tryz.prog 22 #[.int .i64 x, .int .i64 n] w fun e w' => e = .returned (.int .i64 (Bk.lowN x n : Nat)) ∧ w = w' := by
  go_enter Tryz.func22, Tryz.ntmps22
  go_wp2
  go_ret
  exact ⟨ret_int (Bk.low_walk hn hn'), rfl⟩
end Go.Proofs.YtlmjabnkjmfcmaaGreat
/- Row of package rows, by the library's own contracts. -/
namespace Go.Proofs.YtlmjabnkjmfcmaaGreat
open Go Go.RowKit Go.PlainAid
namespace Bk
theorem bt_bang {s : ByteArray} {j : Nat} (h : j < s.size) : ((s.data[j]!).toNat : Int) = bt s j := by
  rw [← get_bt s j h, getElem!_pos s.data j (by simpa using h)]; rfl
theorem size_ext (s : ByteArray) (a b : Nat) (h : b ≤ s.size) : (s.extract a b).size = b - a := by
  simp [ByteArray.size_extract]; omega
theorem bt_ext {s : ByteArray} {a b j : Nat} (h : b ≤ s.size) (hj : a + j < b) : bt (s.extract a b) j = bt s (a + j) := by
  have h1 : j < (s.extract a b).size := by rw [size_ext s a b h]; omega
  rw [← get_bt _ j h1, ← get_bt s (a + j) (by omega)]
  simp [ByteArray.getElem_extract]
theorem last_from {s : ByteArray} {h : Nat} (hh : h ≤ s.size) : Lib.lastIndexByte (s.extract 0 h) 10 = (fromN s h : Int) - 1 := by
  have hz := size_ext s 0 h hh
  rcases Lib.lastIndexByte_spec (s.extract 0 h) 10 with ⟨h1, h2⟩ | ⟨i, h0, h1, h2, h3⟩
  · have : fromN s h = 0 := by
      refine fromN_eq (Nat.zero_le _) (fun j _ hj => ?_) (fun h => absurd h (by omega))
      have := h2 j (by omega)
      rw [bt_bang (by omega), bt_ext hh (by omega), Nat.zero_add] at this
      exact this
    rw [h1, this]; rfl
  · have : fromN s h = i + 1 := by
      refine fromN_eq (by omega) (fun j ha hb => ?_) (fun _ => ?_)
      · have := h3 j (by omega) (by omega)
        rw [bt_bang (by omega), bt_ext hh (by omega), Nat.zero_add] at this
        exact this
      · rw [bt_bang (by omega), bt_ext hh (by omega), Nat.zero_add] at h2
        exact h2
    rw [h1, this]; omega
theorem list_at {s : ByteArray} {j : Nat} (h : j < s.size) : s.data.toList[j]? = some (s[j]) := by
  rw [Array.getElem?_toList, Array.getElem?_eq_getElem (by simpa using h)]; rfl
theorem list_end {s : ByteArray} {j : Nat} (h : s.size ≤ j) : s.data.toList[j]? = none := by
  rw [Array.getElem?_toList]; simpa using h
theorem byte_is {s : ByteArray} {j : Nat} (h : j < s.size) : (s.data.toList[j]? = some ((10 : Int).toNat.toUInt8)) ↔ bt s j = 10 := by
  rw [list_at h, ← get_bt s j h]
  constructor
  · intro e; rw [Option.some.inj e]; rfl
  · intro e
    congr 1
    have : (s[j]).toNat = 10 := by omega
    exact UInt8.toNat_inj.1 this
theorem index_none {s : ByteArray} {h : Nat} (hh : h ≤ s.size) (he : toN s h = s.size) : Lib.indexByte (s.extract h s.size).data.toList ((10 : Int).toNat.toUInt8) = -1 := by
  have hz := size_ext s h s.size (Nat.le_refl _)
  rcases (by omega : Lib.indexByte (s.extract h s.size).data.toList ((10 : Int).toNat.toUInt8) < 0 ∨ 0 ≤ Lib.indexByte (s.extract h s.size).data.toList ((10 : Int).toNat.toUInt8)) with h1 | h1
  · have := Lib.indexByte_ge (s.extract h s.size).data.toList ((10 : Int).toNat.toUInt8); omega
  · exfalso
    obtain ⟨o, ho⟩ := Int.eq_ofNat_of_zero_le h1
    have h2 := (Lib.indexByte_some ho).1
    by_cases hl : o < (s.extract h s.size).size
    · rw [byte_is hl, bt_ext (Nat.le_refl _) (by omega)] at h2
      exact toN_all (s := s) (k := h) (by omega) (by omega) h2
    · rw [list_end (by omega)] at h2; exact absurd h2 (by simp)
theorem index_some {s : ByteArray} {h : Nat} (hh : h ≤ s.size) (he : toN s h < s.size) : Lib.indexByte (s.extract h s.size).data.toList ((10 : Int).toNat.toUInt8) = (toN s h : Int) - (h : Int) := by
  have hz := size_ext s h s.size (Nat.le_refl _)
  have hg := toN_ge s h
  have h0 := toN_end he
  rcases (by omega : Lib.indexByte (s.extract h s.size).data.toList ((10 : Int).toNat.toUInt8) < 0 ∨ 0 ≤ Lib.indexByte (s.extract h s.size).data.toList ((10 : Int).toNat.toUInt8)) with h1 | h1
  · exfalso
    have h3 := Lib.indexByte_ge (s.extract h s.size).data.toList ((10 : Int).toNat.toUInt8)
    have h4 := Lib.indexByte_none (l := (s.extract h s.size).data.toList) (c := (10 : Int).toNat.toUInt8) (by omega) (toN s h - h)
    apply h4
    rw [byte_is (by omega), bt_ext (Nat.le_refl _) (by omega), show h + (toN s h - h) = toN s h from by omega]
    exact h0
  · obtain ⟨o, ho⟩ := Int.eq_ofNat_of_zero_le h1
    have h2 := Lib.indexByte_some ho
    rw [ho]
    have hl : o < (s.extract h s.size).size := by
      rcases Nat.lt_or_ge o (s.extract h s.size).size with h5 | h5
      · exact h5
      · rw [list_end (by omega)] at h2; exact absurd h2.1 (by simp)
    have a1 := h2.1
    rw [byte_is hl, bt_ext (Nat.le_refl _) (by omega)] at a1
    have : toN s h = h + o := by
      refine toN_eq (by omega) (by omega) (fun j ha hb => ?_) (fun _ => a1)
      have a2 := h2.2 (j - h) (by omega)
      rw [Ne, byte_is (by omega), bt_ext (Nat.le_refl _) (by omega), show h + (j - h) = j from by omega] at a2
      exact a2
    omega
end Bk
theorem ret_ints {k l : IntKind} {a b c d : Int} (h : a = b) (h' : c = d) : Ending.returned (.tuple #[.int k a, .int l c]) = .returned (.tuple #[.int k b, .int l d]) := by rw [h, h']
set_option maxHeartbeats 400000 in
theorem rheld_any (s : ByteArray) (a : Int) (w : World) :
    Calls Tryz.prog 62 #[.string s, .int .i64 a] w fun e w' => e = .returned (.int .i64 (Bk.heldN s a : Nat)) ∧ w = w' := by
  go_enter Tryz.func62, Tryz.ntmps62
  go_wp2
  go_ret
  exact ⟨ret_int (by unfold Bk.heldN; omega), rfl⟩
set_option maxHeartbeats 800000 in
theorem rrow_any (s : ByteArray) (a : Int) (w : World) (hs : s.size ≤ 4611686018427387903) :
    Calls Tryz.prog 32 #[.string s, .int .i64 a] w fun e w' => e = .returned (.tuple #[.int .i64 (Bk.fromN s (Bk.heldN s a) : Nat), .int .i64 (Bk.toN s (Bk.heldN s a) : Nat)]) ∧ w = w' := by
  have hb := get_bt s
  have hh := Bk.heldN_le s a
  obtain ⟨h, hq⟩ : ∃ h, h = Bk.heldN s a := ⟨_, rfl⟩
  rw [← hq] at hh ⊢
  have HQ := Lib.hid hq; clear hq
  go_enter Tryz.func32, Tryz.ntmps32
  go_wp2_with (go_at_call 62; refine (rheld_any _ _ _).mono ?_; rintro e w' ⟨rfl, rfl⟩; rw [← HQ.out])
  go_loop [6] (fun i => ∃ k : Nat, k ≤ h ∧ i = .int .i64 k ∧ Hid (∀ j, k ≤ j → j < h → bt s j ≠ 10)) (fun i => (intOf i).toNat)
  case atStart => exact ⟨h, Nat.le_refl _, rfl, Lib.hid fun j _ _ => by omega⟩
  case round =>
    obtain ⟨k, hk, rfl, H⟩ := hrel
    by_cases hp : 0 < k ∧ bt s (k - 1) ≠ 10
    · obtain ⟨hp, hq⟩ := hp
      have h1 : (bt s (k - 1) != 10) = true := by simpa using hq
      have HQ2 := Lib.hid hq; clear hq
      have e1 : ((k : Int) - 1).toNat = k - 1 := by omega
      go_wp2
      go_round
      case rel =>
        refine ⟨k - 1, by omega, by rw [Int.ofNat_sub (by omega)]; rfl, Lib.hid fun j hj hj' => ?_⟩
        by_cases e : j = k - 1
        · subst e; exact HQ2.out
        · exact H.out j (by omega) hj'
      case measure => simp [intOf]; omega
    · have HF := Lib.hid (Bk.fromN_eq hk H.out (fun h0 => by
        by_cases e : bt s (k - 1) = 10
        · exact e
        · exact absurd ⟨h0, e⟩ hp))
      have h1 : 0 < k → (bt s (k - 1) != 10) = false := fun h0 => by
        by_cases e : bt s (k - 1) = 10
        · simp [e]
        · exact absurd ⟨h0, e⟩ hp
      clear hp
      by_cases h0 : 0 < k
      all_goals
        (try have h2 := h1 h0)
        clear h1
        go_wp2
        go_loop [7] (fun i => ∃ m : Nat, h ≤ m ∧ m ≤ s.size ∧ i = .int .i64 m ∧ Hid (∀ j, h ≤ j → j < m → bt s j ≠ 10)) (fun i => s.size - (intOf i).toNat)
        case atStart => exact ⟨h, Nat.le_refl _, hh, rfl, Lib.hid fun j _ _ => by omega⟩
        case round =>
          obtain ⟨m, hm0, hm, rfl, HM⟩ := hrel
          by_cases hlt : m < s.size
          · by_cases hc : bt s m = 10
            · have HT := Lib.hid (Bk.toN_eq hm0 hm HM.out (fun _ => hc))
              have h3 : (bt s m != 10) = false := by simp [hc]
              clear hc
              go_wp2
              go_ret2
              exact ⟨ret_ints (by rw [HF.out]) (by rw [HT.out]), rfl⟩
            · have h3 : (bt s m != 10) = true := by simpa using hc
              have HC := Lib.hid hc; clear hc
              go_wp2
              go_round
              case rel =>
                refine ⟨m + 1, by omega, by omega, by go_num, Lib.hid fun j hj hj' => ?_⟩
                by_cases e : j = m
                · subst e; exact HC.out
                · exact HM.out j hj (by omega)
              case measure => simp [intOf]; omega
          · have HT := Lib.hid (Bk.toN_eq hm0 hm HM.out (fun h => absurd h hlt))
            go_wp2
            go_ret2
            exact ⟨ret_ints (by rw [HF.out]) (by rw [HT.out]), rfl⟩
end Go.Proofs.YtlmjabnkjmfcmaaGreat
/- In, Col, First, bare, begun: contracts. -/
namespace Go.Proofs.YtlmjabnkjmfcmaaGreat
open Go Go.RowKit Go.PlainAid
set_option maxHeartbeats 800000 in
theorem rin_any (s : ByteArray) (a : Int) (w : World) (hs : s.size ≤ 4611686018427387903) :
    Calls Tryz.prog 88 #[.string s, .int .i64 a] w fun e w' => e = .returned (.int .i64 (Bk.inN s (Bk.heldN s a) : Nat)) ∧ w = w' := by
  have hb := get_bt s
  have hh := Bk.heldN_le s a
  have hf := Bk.fromN_le s (Bk.heldN s a)
  have hg := Bk.toN_ge s (Bk.heldN s a)
  have ht := Bk.toN_le hh
  have HIN : Hid (Bk.inN s (Bk.heldN s a) = Bk.runP (fun i => bt s i == 32) (Bk.toN s (Bk.heldN s a) - Bk.fromN s (Bk.heldN s a)) (Bk.fromN s (Bk.heldN s a))) := Lib.hid rfl
  go_enter Tryz.func88, Tryz.ntmps88
  go_wp2_with (go_at_call 32; refine (rrow_any _ _ _ hs).mono ?_; rintro e w' ⟨rfl, rfl⟩)
  generalize Bk.fromN s (Bk.heldN s a) = f at *
  generalize Bk.toN s (Bk.heldN s a) = t at *
  go_loop [7] (fun i => ∃ n : Nat, f + n ≤ t ∧ i = .int .i64 n ∧ Hid (∀ j, j < n → (bt s (f + j) == 32) = true)) (fun i => t - f - (intOf i).toNat)
  case atStart => exact ⟨0, by omega, rfl, Lib.hid fun j h => absurd h (by omega)⟩
  case round =>
    obtain ⟨n, hn, rfl, H⟩ := hrel
    by_cases hlt : f + n < t
    · by_cases hc : bt s (f + n) = 32
      · have h1 : (bt s (f + n) == 32) = true := by simp [hc]
        have HC := Lib.hid hc; clear hc
        go_wp2
        go_round
        case rel =>
          refine ⟨n + 1, by omega, by go_num, Lib.hid fun j hj => ?_⟩
          by_cases e : j = n
          · subst e; rw [HC.out]; rfl
          · exact H.out j (by omega)
        case measure => simp [intOf]; omega
      · have h1 : (bt s (f + n) == 32) = false := by simpa using hc
        have HE := Lib.hid (HIN.out.trans (Bk.runP_eq (by omega) H.out (fun _ => by simpa using hc)))
        clear hc
        go_wp2
        go_ret
        exact ⟨ret_int (by rw [HE.out]), rfl⟩
    · have HE := Lib.hid (HIN.out.trans (Bk.runP_eq (by omega) H.out (fun _ => by omega)))
      go_wp2
      go_ret
      exact ⟨ret_int (by rw [HE.out]), rfl⟩
set_option maxHeartbeats 400000 in
theorem rcol_any (s : ByteArray) (a : Int) (w : World) (hs : s.size ≤ 4611686018427387903) :
    Calls Tryz.prog 31 #[.string s, .int .i64 a] w fun e w' => e = .returned (.int .i64 ((Bk.heldN s a : Nat) - (Bk.fromN s (Bk.heldN s a) : Nat))) ∧ w = w' := by
  have hh := Bk.heldN_le s a
  have hf := Bk.fromN_le s (Bk.heldN s a)
  go_enter Tryz.func31, Tryz.ntmps31
  go_wp2_with first
    | (go_at_call 32; refine (rrow_any _ _ _ hs).mono ?_; rintro e w' ⟨rfl, rfl⟩)
    | (go_at_call 62; refine (rheld_any _ _ _).mono ?_; rintro e w' ⟨rfl, rfl⟩)
  go_ret
  exact ⟨rfl, rfl⟩
end Go.Proofs.YtlmjabnkjmfcmaaGreat
/- First, bare, begun: contracts. -/
namespace Go.Proofs.YtlmjabnkjmfcmaaGreat
open Go Go.RowKit Go.PlainAid
set_option maxHeartbeats 800000 in
theorem rfirst_any (s : ByteArray) (f t : Nat) (w : World) (hs : s.size ≤ 4611686018427387903) (ht : t ≤ s.size) :
    Calls Tryz.prog 33 #[.string s, .int .i64 f, .int .i64 t] w fun e w' => e = .returned (.int .i64 (Bk.firstN s f t : Nat)) ∧ w = w' := by
  have hb := get_bt s
  go_enter Tryz.func33, Tryz.ntmps33
  go_wp2
  go_loop [1] (fun i => ∃ p : Nat, f ≤ p ∧ (p = f ∨ p ≤ t) ∧ i = .int .i64 p ∧ Hid (∀ j, f ≤ j → j < p → Bk.whiteB (bt s j) = true)) (fun i => t - (intOf i).toNat)
  case atStart => exact ⟨f, by omega, by omega, rfl, Lib.hid fun j _ _ => by omega⟩
  case round =>
    obtain ⟨p, hp, hp', rfl, H⟩ := hrel
    by_cases hlt : p < t
    · cases hw : Bk.whiteB (bt s p) with
      | true =>
        have HC : Hid (Bk.whiteB (bt s p) = true) := Lib.hid hw
        go_wp2_with (go_at_call 63; refine (rwhite_any _ _).mono ?_; rintro e w' ⟨rfl, rfl⟩)
        go_round
        case rel =>
          refine ⟨p + 1, by omega, by omega, by go_num, Lib.hid fun j hj hj' => ?_⟩
          by_cases e : j = p
          · subst e; exact HC.out
          · exact H.out j hj (by omega)
        case measure => simp [intOf]; omega
      | false =>
        have HE := Lib.hid (Bk.firstN_eq (m := t) hp (by omega) H.out (fun _ => hw))
        go_wp2_with (go_at_call 63; refine (rwhite_any _ _).mono ?_; rintro e w' ⟨rfl, rfl⟩)
        go_ret
        exact ⟨ret_int (by rw [HE.out]), rfl⟩
    · have HE : Hid (Bk.firstN s f t = p) := Lib.hid (by
        by_cases e : f ≤ t
        · exact Bk.firstN_eq (m := t) hp (by omega) H.out (fun h => absurd h hlt)
        · unfold Bk.firstN; rw [show t - f = 0 from by omega]; show f + 0 = p; omega)
      go_wp2
      go_ret
      exact ⟨ret_int (by rw [HE.out]), rfl⟩
namespace Bk
theorem ext_nil {s : ByteArray} {p : Nat} : (s.extract p p).toList = [] := by
  have : (s.extract p p).data.toList = [] := by simp
  rw [Lib.toList_data]; exact this
theorem ext_cons {s : ByteArray} {p t : Nat} (h : p < t) (h' : t ≤ s.size) : (s.extract p t).toList.isEmpty = false := by
  have hz := size_ext s p t h'
  rw [Lib.toList_data]
  cases hl : (s.extract p t).data.toList with
  | nil => exfalso; have : (s.extract p t).data.toList.length = 0 := by rw [hl]; rfl
           rw [Array.length_toList] at this; have h2 : (s.extract p t).size = 0 := this; omega
  | cons a l => rfl
theorem ext_tail {s : ByteArray} {p t : Nat} : (s.extract p t).extract 1 (t - p) = s.extract (p + 1) t := by
  apply ByteArray.ext
  simp [ByteArray.data_extract, Array.extract_extract]
  congr 1
  omega
theorem ext_empty (s : ByteArray) (p : Nat) : ByteArray.empty = s.extract p p := by
  apply ByteArray.ext
  simp
/-- A string's length. -/
def lenOf : Value → Nat
  | .string r => r.size
  | _ => 0
theorem bt_ext0 {s : ByteArray} {p t : Nat} (h : p < t) (h' : t ≤ s.size) : bt (s.extract p t) 0 = bt s p := by
  have := bt_ext (s := s) (a := p) (b := t) (j := 0) h' (by omega); rw [Nat.add_zero] at this; exact this
end Bk
theorem ret_str {a b : ByteArray} (h : a = b) : Ending.returned (.string a) = .returned (.string b) := by rw [h]
namespace Bk
theorem prefix3 {s : ByteArray} {k : Nat} (hk : k ≤ s.size) (c : UInt8) :
    Lib.hasPrefix (s.extract k s.size).data.toList [c, c, c] = dash3 s k (c.toNat : Int) := by
  have hlen : s.data.toList.length = s.size := by simp
  have hl : (s.extract k s.size).data.toList = s.data.toList.drop k := by
    simp [ByteArray.data_extract]
    rw [List.take_of_length_le (by simp)]
  rw [hl]
  unfold dash3
  by_cases h : k + 3 ≤ s.size
  · have e0 := get_bt s k (by omega)
    have e1 := get_bt s (k + 1) (by omega)
    have e2 := get_bt s (k + 2) (by omega)
    rw [List.drop_eq_getElem_cons (by omega), List.drop_eq_getElem_cons (by omega), List.drop_eq_getElem_cons (by omega)]
    rw [← e0, ← e1, ← e2, Bool.eq_iff_iff]
    have q : ∀ (a b : UInt8), ((a.toNat : Int) = (b.toNat : Int)) ↔ b = a := fun a b => ⟨fun e => (UInt8.toNat_inj.1 (by omega)).symm, fun e => by rw [e]⟩
    simp [Lib.hasPrefix, List.isPrefixOf, h, q, and_assoc]
    rfl
  · rw [decide_eq_false h]
    simp only [Bool.false_and]
    cases hp : Lib.hasPrefix (List.drop k s.data.toList) [c, c, c] with
    | false => rfl
    | true =>
      exfalso
      have := List.IsPrefix.length_le (List.isPrefixOf_iff_prefix.1 hp)
      simp at this
      omega
end Bk
end Go.Proofs.YtlmjabnkjmfcmaaGreat
/- Tags and their sizes: plain functions; hex, percent, uris, handle of package hand: contracts. -/
namespace Go.Proofs.YtlmjabnkjmfcmaaGreat
open Go Go.RowKit Go.PlainAid
namespace Bk
def hexB (c : Int) : Bool := decide (48 ≤ c ∧ c ≤ 57) || decide (97 ≤ c ∧ c ≤ 102) || decide (65 ≤ c ∧ c ≤ 70)
/-- Do two hex digits stand behind place k? -/
def percB (s : ByteArray) (k : Nat) : Bool := decide (k + 3 ≤ s.size) && hexB (bt s (k + 1)) && hexB (bt s (k + 2))
/-- May the byte at place i stand in a tag (tight: in a suffix)? -/
def okB (s : ByteArray) (tight : Bool) (i : Nat) : Bool := uriB (bt s i) && (!(bt s i == 37) || percB s i) && !(tight && (bt s i == 33 || flowB (bt s i)))
theorem ok_stop {s : ByteArray} {tight : Bool} {i : Nat} (h : okB s tight i = false) :
    uriB (bt s i) = false ∨ (uriB (bt s i) = true ∧ (bt s i == 37) = true ∧ percB s i = false) ∨
    (uriB (bt s i) = true ∧ (bt s i == 37) = false ∧ tight = true ∧ (bt s i == 33) = true) ∨
    (uriB (bt s i) = true ∧ (bt s i == 37) = false ∧ tight = true ∧ (bt s i == 33) = false ∧ flowB (bt s i) = true) := by
  unfold okB at h
  cases h1 : uriB (bt s i) <;> cases h2 : (bt s i == 37) <;> cases h3 : percB s i <;> cases tight <;> cases h4 : (bt s i == 33) <;> cases h5 : flowB (bt s i) <;> simp [h1, h2, h3, h4, h5] at h ⊢
  all_goals (rw [beq_iff_eq.1 h2] at h4 h5; first | exact Bool.noConfusion (h4.symm.trans (by decide : ((37 : Int) == 33) = false)) | exact Bool.noConfusion (h5.symm.trans (by decide : flowB 37 = false)))
theorem ok_go {s : ByteArray} {tight : Bool} {i : Nat} (h : okB s tight i = true) :
    uriB (bt s i) = true ∧ (((bt s i == 37) = true ∧ percB s i = true ∧ (bt s i == 33) = false ∧ flowB (bt s i) = false) ∨
    ((bt s i == 37) = false ∧ tight = false) ∨ ((bt s i == 37) = false ∧ tight = true ∧ (bt s i == 33) = false ∧ flowB (bt s i) = false)) := by
  unfold okB at h
  cases h1 : uriB (bt s i) <;> cases h2 : (bt s i == 37) <;> cases h3 : percB s i <;> cases tight <;> cases h4 : (bt s i == 33) <;> cases h5 : flowB (bt s i) <;> simp [h1, h2, h3, h4, h5] at h ⊢
  all_goals (rw [beq_iff_eq.1 h2] at h4 h5; first | exact Bool.noConfusion (h4.symm.trans (by decide : ((37 : Int) == 33) = false)) | exact Bool.noConfusion (h5.symm.trans (by decide : flowB 37 = false)))
theorem run_shift {p q : Nat → Bool} {f k l : Nat} (h : ∀ j, j < f → p (k + j) = q (l + j)) : runP p f k = runP q f l := by
  refine runP_eq (runP_le q f l) (fun j hj => ?_) (fun hj => ?_)
  · rw [h j (by have := runP_le q f l; omega)]; exact runP_all q f l j hj
  · rw [h _ hj]; exact runP_end q f l hj
theorem perc_ext {s : ByteArray} {k j : Nat} (h : k + j ≤ s.size) : percB (s.extract k s.size) j = percB s (k + j) := by
  have hz := size_ext s k s.size (Nat.le_refl _)
  unfold percB
  by_cases e : k + j + 3 ≤ s.size
  · rw [decide_eq_true e, decide_eq_true (by omega), bt_ext (Nat.le_refl _) (by omega), bt_ext (Nat.le_refl _) (by omega), show k + (j + 1) = k + j + 1 from by omega, show k + (j + 2) = k + j + 2 from by omega]
  · rw [decide_eq_false e, decide_eq_false (by omega)]; simp
theorem ok_ext {s : ByteArray} {tight : Bool} {k j : Nat} (h : k + j < s.size) : okB (s.extract k s.size) tight j = okB s tight (k + j) := by
  unfold okB
  rw [bt_ext (Nat.le_refl _) h, perc_ext (by omega)]
/-- How many bytes from place k on are those of a tag. -/
def urisN (s : ByteArray) (tight : Bool) (k : Nat) : Nat := runP (okB s tight) (s.size - k) k
theorem uris_ext {s : ByteArray} {tight : Bool} {k : Nat} (h : k ≤ s.size) : urisN (s.extract k s.size) tight 0 = urisN s tight k := by
  unfold urisN
  rw [size_ext s k s.size (Nat.le_refl _), Nat.sub_zero]
  exact run_shift fun j hj => by rw [Nat.zero_add]; exact ok_ext (by omega)
/-- How many bytes of a tag at k, with the first one, are words. -/
def wordsN (s : ByteArray) (k : Nat) : Nat := 1 + runP (fun i => wordB (bt s i)) (s.size - (k + 1)) (k + 1)
/-- The size of a handle that ends with a second sign; 0: none. -/
def handN (s : ByteArray) (k : Nat) : Nat := if k + wordsN s k < s.size ∧ bt s (k + wordsN s k) = 33 then wordsN s k + 1 else 0
/-- The size of the tag at k, at which its sign stands. -/
def sizeN (s : ByteArray) (k : Nat) : Nat :=
  if k + 1 < s.size ∧ bt s (k + 1) = 60 ∧ 0 < urisN s false (k + 2) ∧ k + 2 + urisN s false (k + 2) < s.size ∧ bt s (k + 2 + urisN s false (k + 2)) = 62 then urisN s false (k + 2) + 3
  else if 0 < handN s k ∧ 0 < urisN s true (k + handN s k) then handN s k + urisN s true (k + handN s k) else 1 + urisN s true (k + 1)
end Bk
end Go.Proofs.YtlmjabnkjmfcmaaGreat
/- handle and Size of package hand: contracts. -/
namespace Go.Proofs.YtlmjabnkjmfcmaaGreat
open Go Go.RowKit Go.PlainAid
namespace Bk
theorem words_ext {s : ByteArray} {k : Nat} (h : k < s.size) : wordsN (s.extract k s.size) 0 = wordsN s k := by
  have hz := size_ext s k s.size (Nat.le_refl _)
  unfold wordsN
  rw [show (s.extract k s.size).size - (0 + 1) = s.size - (k + 1) from by omega]
  congr 1
  refine run_shift fun j hj => ?_
  show wordB (bt (s.extract k s.size) (0 + 1 + j)) = wordB (bt s (k + 1 + j))
  rw [bt_ext (Nat.le_refl _) (by omega), show k + (0 + 1 + j) = k + 1 + j from by omega]
theorem words_le {s : ByteArray} {k : Nat} (h : k < s.size) : k + wordsN s k ≤ s.size := by
  unfold wordsN
  have := runP_le (fun i => wordB (bt s i)) (s.size - (k + 1)) (k + 1); omega
theorem words_ge (s : ByteArray) (k : Nat) : 1 ≤ wordsN s k := by unfold wordsN; omega
theorem hand_ext {s : ByteArray} {k : Nat} (h : k < s.size) : handN (s.extract k s.size) 0 = handN s k := by
  have hz := size_ext s k s.size (Nat.le_refl _)
  unfold handN
  rw [words_ext h, Nat.zero_add, hz]
  by_cases e : k + wordsN s k < s.size
  · rw [bt_ext (Nat.le_refl _) (by omega)]
    by_cases e2 : bt s (k + wordsN s k) = 33
    · rw [if_pos ⟨by omega, e2⟩, if_pos ⟨by omega, e2⟩]
    · rw [if_neg (fun q => e2 q.2), if_neg (fun q => e2 q.2)]
  · rw [if_neg (fun q => by omega), if_neg (fun q => by omega)]
theorem hand_le {s : ByteArray} {k : Nat} : handN s k = 0 ∨ k + handN s k ≤ s.size := by
  unfold handN
  split
  · right; omega
  · left; rfl
theorem uris_le (s : ByteArray) (t : Bool) (k : Nat) : urisN s t k ≤ s.size - k := runP_le _ _ _
theorem size_le {s : ByteArray} {k : Nat} (h : k < s.size) : k + sizeN s k ≤ s.size ∧ 1 ≤ sizeN s k := by
  unfold sizeN
  have h1 := uris_le s true (k + handN s k)
  have h2 := uris_le s true (k + 1)
  have h3 := hand_le (s := s) (k := k)
  split
  · omega
  · split <;> omega
end Bk
namespace Bk
/-- The bytes of a text from a place on begin with "!<"; behind them. -/
theorem cut_yes {s : ByteArray} {k : Nat} (h : k + 1 < s.size) (h0 : bt s k = 33) (h1 : bt s (k + 1) = 60) :
    Lib.hasPrefix (s.extract k s.size).data.toList [33, 60] = true ∧ (⟨(Lib.trimPrefix (s.extract k s.size).data.toList [33, 60]).toArray⟩ : ByteArray) = s.extract (k + 2) s.size := by
  have hlen : s.data.toList.length = s.size := by simp
  have hl : (s.extract k s.size).data.toList = s.data.toList.drop k := by
    simp [ByteArray.data_extract]
    rw [List.take_of_length_le (by simp)]
  have e0 := get_bt s k (by omega)
  have e1 := get_bt s (k + 1) (by omega)
  have b0 : s[k] = 33 := UInt8.toNat_inj.1 (by show s[k].toNat = 33; omega)
  have b1 : s[k + 1] = 60 := UInt8.toNat_inj.1 (by show s[k + 1].toNat = 60; omega)
  have hd : s.data.toList.drop k = 33 :: 60 :: s.data.toList.drop (k + 2) := by
    rw [List.drop_eq_getElem_cons (by omega), List.drop_eq_getElem_cons (by omega)]
    congr 1
    congr 1
  have hp : Lib.hasPrefix (s.extract k s.size).data.toList [33, 60] = true := by rw [hl, hd]; simp [Lib.hasPrefix, List.isPrefixOf]
  refine ⟨hp, ?_⟩
  unfold Lib.trimPrefix
  rw [if_pos hp, hl, hd]
  apply ByteArray.ext
  apply Array.toList_inj.1
  simp [ByteArray.data_extract]
  rw [List.take_of_length_le (by simp)]
theorem cut_no {s : ByteArray} {k : Nat} (h : k < s.size) (h1 : ¬ (k + 1 < s.size ∧ bt s (k + 1) = 60)) :
    Lib.hasPrefix (s.extract k s.size).data.toList [33, 60] = false := by
  have hlen : s.data.toList.length = s.size := by simp
  have hl : (s.extract k s.size).data.toList = s.data.toList.drop k := by
    simp [ByteArray.data_extract]
    rw [List.take_of_length_le (by simp)]
  rw [hl]
  by_cases h2 : k + 1 < s.size
  · have h3 : ¬ bt s (k + 1) = 60 := fun q => h1 ⟨h2, q⟩
    have e1 := get_bt s (k + 1) (by omega)
    rw [List.drop_eq_getElem_cons (by omega), List.drop_eq_getElem_cons (by omega)]
    have b1 : ¬ ((60 : UInt8) = s.data.toList[k + 1]) := by
      intro q
      apply h3
      rw [← e1]
      have : s[k + 1] = s.data.toList[k + 1] := rfl
      rw [this, ← q]; rfl
    simp [Lib.hasPrefix, List.isPrefixOf]
    intro _ q
    exact absurd q b1
  · rw [List.drop_eq_getElem_cons (by omega), List.drop_eq_nil_of_le (by omega)]
    simp [Lib.hasPrefix, List.isPrefixOf]
theorem drop_ext (s : ByteArray) (k : Nat) : (s.extract k s.size).data.toList = s.data.toList.drop k := by
  simp [ByteArray.data_extract]
  rw [List.take_of_length_le (by simp)]
theorem ext_ext {s : ByteArray} {k n : Nat} (h : k ≤ s.size) : (s.extract k s.size).extract n (s.size - k) = s.extract (k + n) s.size := by
  apply ByteArray.ext
  simp [ByteArray.data_extract, Array.extract_extract]
  congr 1
  omega
theorem gt_is {s : ByteArray} {k n : Nat} (h : k + n ≤ s.size) : Lib.hasPrefix ((s.extract k s.size).extract n (s.size - k)).data.toList [62] = (decide (k + n < s.size) && bt s (k + n) == 62) := by
  have hlen : s.data.toList.length = s.size := by simp
  have hl : ((s.extract k s.size).extract n (s.size - k)).data.toList = s.data.toList.drop (k + n) := by
    rw [ext_ext (by omega), drop_ext]
  rw [hl]
  by_cases e : k + n < s.size
  · have e1 := get_bt s (k + n) e
    rw [List.drop_eq_getElem_cons (by omega), decide_eq_true e, Bool.true_and, ← e1]
    simp only [Lib.hasPrefix, List.isPrefixOf, Bool.and_true]
    rw [Bool.eq_iff_iff]
    simp only [beq_iff_eq]
    constructor
    · intro q; have : s[k + n] = s.data.toList[k + n] := rfl
      rw [this, ← q]; rfl
    · intro q; exact (UInt8.toNat_inj.1 (by have : s[k + n] = s.data.toList[k + n] := rfl
                                            rw [← this]; show 62 = s[k + n].toNat; omega))
  · rw [List.drop_eq_nil_of_le (by omega), decide_eq_false e]; rfl
def gtB (s : ByteArray) (i : Nat) : Bool := decide (i < s.size) && bt s i == 62
end Bk
end Go.Proofs.YtlmjabnkjmfcmaaGreat
/- The reference's Hex, unit, handle, suffix: contracts. -/
namespace Go.Proofs.YtlmjabnkjmfcmaaGreat
open Go Go.RowKit Go.PlainAid
namespace Bk
/-- What a hex digit tells; -1. -/
def hexI (c : Int) : Int := if 48 ≤ c ∧ c ≤ 57 then c - 48 else if 97 ≤ c ∧ c ≤ 102 then c - 97 + 10 else if 65 ≤ c ∧ c ≤ 70 then c - 65 + 10 else -1
theorem hexI_yes {c : Int} (h : hexB c = true) : 0 ≤ hexI c := by
  have : (48 ≤ c ∧ c ≤ 57) ∨ (97 ≤ c ∧ c ≤ 102) ∨ (65 ≤ c ∧ c ≤ 70) := by simpa [hexB, or_assoc] using h
  unfold hexI
  split
  · omega
  · split
    · omega
    · split <;> omega
theorem hexI_no {c : Int} (h : hexB c = false) : hexI c = -1 := by
  have : ¬ ((48 ≤ c ∧ c ≤ 57) ∨ (97 ≤ c ∧ c ≤ 102) ∨ (65 ≤ c ∧ c ≤ 70)) := by
    intro q
    have : hexB c = true := by simpa [hexB, or_assoc] using q
    rw [h] at this; exact Bool.noConfusion this
  unfold hexI
  rw [if_neg (by omega), if_neg (by omega), if_neg (by omega)]
def unitN (s : ByteArray) (k : Nat) : Nat := if k < s.size ∧ uriB (bt s k) = true then (if bt s k = 37 then (if percB s k = true then 3 else 0) else 1) else 0
theorem hex_word {c : Int} (h : hexB c = true) : uriB c = true ∧ (c == 37) = false ∧ (c == 33) = false ∧ flowB c = false := by
  have : (48 ≤ c ∧ c ≤ 57) ∨ (97 ≤ c ∧ c ≤ 102) ∨ (65 ≤ c ∧ c ≤ 70) := by simpa [hexB, or_assoc] using h
  refine ⟨?_, ?_, ?_, ?_⟩
  · have : wordB c = true := by simp [wordB]; omega
    simp [uriB, this]
  · simp; omega
  · simp; omega
  · simp [flowB]; omega
theorem hex_ok {s : ByteArray} {t : Bool} {i : Nat} (h : hexB (bt s i) = true) : okB s t i = true := by
  obtain ⟨a, b, c, d⟩ := hex_word h
  unfold okB
  rw [a, b, c, d]; simp
theorem perc_at {s : ByteArray} {k : Nat} (h : percB s k = true) : k + 3 ≤ s.size ∧ hexB (bt s (k + 1)) = true ∧ hexB (bt s (k + 2)) = true := by
  simpa [percB, and_assoc] using h
/-- What unit tells of a place. -/
theorem unit_way (s : ByteArray) (k : Nat) : (unitN s k = 0 ∧ (k < s.size → ∀ t, okB s t k = false)) ∨
    (unitN s k = 1 ∧ k < s.size ∧ uriB (bt s k) = true ∧ (bt s k == 37) = false) ∨
    (unitN s k = 3 ∧ k + 3 ≤ s.size ∧ (∀ t, okB s t k = true) ∧ (∀ t, okB s t (k + 1) = true) ∧ (∀ t, okB s t (k + 2) = true) ∧ (bt s k == 33) = false ∧ flowB (bt s k) = false) := by
  unfold unitN
  by_cases a : k < s.size ∧ uriB (bt s k) = true
  · rw [if_pos a]
    by_cases b : bt s k = 37
    · rw [if_pos b]
      by_cases c : percB s k = true
      · rw [if_pos c]
        obtain ⟨p1, p2, p3⟩ := perc_at c
        have e1 : (bt s k == 33) = false := by rw [b]; rfl
        have e2 : flowB (bt s k) = false := by rw [b]; rfl
        refine .inr (.inr ⟨rfl, p1, fun t => ?_, fun t => hex_ok p2, fun t => hex_ok p3, e1, e2⟩)
        unfold okB; rw [a.2, c, e1, e2]; simp
      · rw [if_neg c]
        have c' : percB s k = false := by simpa using c
        refine .inl ⟨rfl, fun _ t => ?_⟩
        unfold okB; rw [c', b]; simp
    · rw [if_neg b]; exact .inr (.inl ⟨rfl, a.1, a.2, by simpa using b⟩)
  · rw [if_neg a]
    refine .inl ⟨rfl, fun hk t => ?_⟩
    have : uriB (bt s k) = false := by
      cases h : uriB (bt s k)
      · rfl
      · exact absurd ⟨hk, h⟩ a
    unfold okB; rw [this]; rfl
end Bk
set_option maxHeartbeats 400000 in
theorem rhex_any (c : Int) (w : World) (h0 : 0 ≤ c) (h1 : c ≤ 255) : Calls Tryz.prog 107 #[.int .u8 c] w fun e w' => e = .returned (.int .i32 (Bk.hexI c)) ∧ w = w' := by
  have HX : Hid (Bk.hexI c = if 48 ≤ c ∧ c ≤ 57 then c - 48 else if 97 ≤ c ∧ c ≤ 102 then c - 97 + 10 else if 65 ≤ c ∧ c ≤ 70 then c - 65 + 10 else -1) := Lib.hid rfl
  rcases (by omega : (48 ≤ c ∧ c ≤ 57) ∨ (97 ≤ c ∧ c ≤ 102) ∨ (65 ≤ c ∧ c ≤ 70) ∨ c < 48 ∨ (58 ≤ c ∧ c ≤ 64) ∨ (71 ≤ c ∧ c ≤ 96) ∨ 103 ≤ c) with h | h | h | h | h | h | h
  all_goals
    go_enter Tryz.func107, Tryz.ntmps107
    go_wp2
    go_ret
    exact ⟨ret_int (by rw [HX.out]; (repeat' split) <;> omega), rfl⟩
end Go.Proofs.YtlmjabnkjmfcmaaGreat
/- The reference's unit, handle, suffix, Size: contracts. -/
namespace Go.Proofs.YtlmjabnkjmfcmaaGreat
open Go Go.RowKit Go.PlainAid
set_option maxHeartbeats 1600000 in
theorem runit_any (s : ByteArray) (k : Nat) (w : World) (hs : s.size ≤ 4611686018427387903) :
    Calls Tryz.prog 133 #[.string s, .int .i64 k] w fun e w' => e = .returned (.int .i64 (Bk.unitN s k : Nat)) ∧ w = w' := by
  have hb := get_bt s
  have HU : Hid (Bk.unitN s k = if k < s.size ∧ Bk.uriB (bt s k) = true then (if bt s k = 37 then (if Bk.percB s k = true then 3 else 0) else 1) else 0) := Lib.hid rfl
  have b1 := bt_nonneg s (k + 1)
  have b2 := bt_le s (k + 1)
  have b3 := bt_nonneg s (k + 2)
  have b4 := bt_le s (k + 2)
  by_cases hk : k < s.size
  · cases hu : Bk.uriB (bt s k) with
    | false =>
      have HE : Hid (Bk.unitN s k = 0) := Lib.hid (by rw [HU.out, hu]; simp)
      go_enter Tryz.func133, Tryz.ntmps133
      go_wp2_with (go_at_call 95; refine (ruri_any _ _).mono ?_; rintro e w' ⟨rfl, rfl⟩)
      go_ret
      exact ⟨ret_int (by rw [HE.out]; rfl), rfl⟩
    | true =>
      by_cases h37 : bt s k = 37
      · have h37b : (bt s k != 37) = false := by simp [h37]
        have HV : Hid (Bk.unitN s k = if Bk.percB s k = true then 3 else 0) := Lib.hid (by rw [HU.out, if_pos ⟨hk, hu⟩, if_pos h37])
        clear h37
        by_cases h3 : k + 3 ≤ s.size
        · have HPR : Hid (Bk.percB s k = (Bk.hexB (bt s (k + 1)) && Bk.hexB (bt s (k + 2)))) := Lib.hid (by unfold Bk.percB; rw [decide_eq_true h3]; rfl)
          cases h4 : Bk.hexB (bt s (k + 1)) with
          | false =>
            have h5 : Bk.hexI (bt s (k + 1)) < 0 := by rw [Bk.hexI_no h4]; decide
            have HE : Hid (Bk.unitN s k = 0) := Lib.hid (by rw [HV.out, HPR.out, h4]; simp)
            clear h4
            go_enter Tryz.func133, Tryz.ntmps133
            go_wp2_with first
              | (go_at_call 95; refine (ruri_any _ _).mono ?_; rintro e w' ⟨rfl, rfl⟩)
              | (go_at_call 107; refine (rhex_any _ _ (by omega) (by omega)).mono ?_; rintro e w' ⟨rfl, rfl⟩)
            go_ret
            exact ⟨ret_int (by rw [HE.out]; rfl), rfl⟩
          | true =>
            have h5 := Bk.hexI_yes h4
            have H4 := Lib.hid h4
            clear h4
            cases h6 : Bk.hexB (bt s (k + 2)) with
            | false =>
              have h7 : Bk.hexI (bt s (k + 2)) < 0 := by rw [Bk.hexI_no h6]; decide
              have HE : Hid (Bk.unitN s k = 0) := Lib.hid (by rw [HV.out, HPR.out, H4.out, h6]; simp)
              clear h6
              go_enter Tryz.func133, Tryz.ntmps133
              go_wp2_with first
                | (go_at_call 95; refine (ruri_any _ _).mono ?_; rintro e w' ⟨rfl, rfl⟩)
                | (go_at_call 107; refine (rhex_any _ _ (by omega) (by omega)).mono ?_; rintro e w' ⟨rfl, rfl⟩)
              go_ret
              exact ⟨ret_int (by rw [HE.out]; rfl), rfl⟩
            | true =>
              have h7 := Bk.hexI_yes h6
              have HE : Hid (Bk.unitN s k = 3) := Lib.hid (by rw [HV.out, HPR.out, H4.out, h6]; simp)
              clear h6
              go_enter Tryz.func133, Tryz.ntmps133
              go_wp2_with first
                | (go_at_call 95; refine (ruri_any _ _).mono ?_; rintro e w' ⟨rfl, rfl⟩)
                | (go_at_call 107; refine (rhex_any _ _ (by omega) (by omega)).mono ?_; rintro e w' ⟨rfl, rfl⟩)
              go_ret
              exact ⟨ret_int (by rw [HE.out]; rfl), rfl⟩
        · have HE : Hid (Bk.unitN s k = 0) := Lib.hid (by rw [HV.out]; unfold Bk.percB; rw [decide_eq_false h3]; simp)
          go_enter Tryz.func133, Tryz.ntmps133
          go_wp2_with (go_at_call 95; refine (ruri_any _ _).mono ?_; rintro e w' ⟨rfl, rfl⟩)
          go_ret
          exact ⟨ret_int (by rw [HE.out]; rfl), rfl⟩
      · have h37b : (bt s k != 37) = true := by simpa using h37
        have HE : Hid (Bk.unitN s k = 1) := Lib.hid (by rw [HU.out, if_pos ⟨hk, hu⟩, if_neg h37])
        clear h37
        go_enter Tryz.func133, Tryz.ntmps133
        go_wp2_with (go_at_call 95; refine (ruri_any _ _).mono ?_; rintro e w' ⟨rfl, rfl⟩)
        go_ret
        exact ⟨ret_int (by rw [HE.out]; rfl), rfl⟩
  · have HE : Hid (Bk.unitN s k = 0) := Lib.hid (by rw [HU.out, if_neg (fun q => hk q.1)])
    go_enter Tryz.func133, Tryz.ntmps133
    go_wp2
    go_ret
    exact ⟨ret_int (by rw [HE.out]; rfl), rfl⟩
/-- What the reference's handle tells: 1 where there is none. -/
def Bk.rhandN (s : ByteArray) (k : Nat) : Nat := if Bk.handN s k = 0 then 1 else Bk.handN s k
theorem Bk.rhand_pos {s : ByteArray} {k n : Nat} (h : Bk.handN s k = n + 1) : Bk.rhandN s k = n + 1 := by unfold Bk.rhandN; rw [h]; rfl
theorem Bk.rhand_zero {s : ByteArray} {k : Nat} (h : Bk.handN s k = 0) : Bk.rhandN s k = 1 := by unfold Bk.rhandN; rw [h]; rfl
set_option maxHeartbeats 1600000 in
theorem rhandle_any (s : ByteArray) (k : Nat) (w : World) (hs : s.size ≤ 4611686018427387903) (hk : k < s.size) :
    Calls Tryz.prog 92 #[.string s, .int .i64 k] w fun e w' => e = .returned (.int .i64 (Bk.rhandN s k : Nat)) ∧ w = w' := by
  have hb := get_bt s
  have HW : Hid (Bk.wordsN s k = 1 + Bk.runP (fun i => Bk.wordB (bt s i)) (s.size - (k + 1)) (k + 1)) := Lib.hid rfl
  have HH : Hid (Bk.handN s k = if k + Bk.wordsN s k < s.size ∧ bt s (k + Bk.wordsN s k) = 33 then Bk.wordsN s k + 1 else 0) := Lib.hid rfl
  go_enter Tryz.func92, Tryz.ntmps92
  go_wp2
  go_loop [5] (fun i => ∃ n : Nat, 1 ≤ n ∧ k + n ≤ s.size ∧ i = .int .i64 n ∧ Hid (∀ j, j < n - 1 → Bk.wordB (bt s (k + 1 + j)) = true)) (fun i => s.size - (intOf i).toNat)
  case atStart => exact ⟨1, by omega, by omega, rfl, Lib.hid fun j h => absurd h (by omega)⟩
  case round =>
    obtain ⟨n, h1, hn, rfl, H⟩ := hrel
    by_cases hlt : k + n < s.size
    · cases hw : Bk.wordB (bt s (k + n)) with
      | true =>
        have HK : Hid (Bk.wordB (bt s (k + n)) = true) := Lib.hid hw
        go_wp2_with (go_at_call 108; refine (rword_any _ _).mono ?_; rintro e w' ⟨rfl, rfl⟩)
        go_round
        case rel =>
          refine ⟨n + 1, by omega, by omega, by go_num, Lib.hid fun j hj => ?_⟩
          by_cases e : j = n - 1
          · subst e; rw [show k + 1 + (n - 1) = k + n from by omega]; exact HK.out
          · exact H.out j (by omega)
        case measure => simp [intOf]; omega
      | false =>
        have hWn : Bk.wordsN s k = n := by
          rw [HW.out, Bk.runP_eq (p := fun i => Bk.wordB (bt s i)) (n := n - 1) (by omega) H.out (fun _ => by show Bk.wordB (bt s (k + 1 + (n - 1))) = false; rw [show k + 1 + (n - 1) = k + n from by omega]; exact hw)]; omega
        have HWn := Lib.hid hWn
        clear hWn
        cases hc : (bt s (k + n) == 33) with
        | true =>
          have HE : Hid (Bk.rhandN s k = n + 1) := Lib.hid (Bk.rhand_pos (by rw [HH.out, HWn.out, if_pos ⟨hlt, beq_iff_eq.1 hc⟩]))
          go_wp2_with (go_at_call 108; refine (rword_any _ _).mono ?_; rintro e w' ⟨rfl, rfl⟩)
          go_ret
          exact ⟨ret_int (by rw [HE.out]; omega), rfl⟩
        | false =>
          have HE : Hid (Bk.rhandN s k = 1) := Lib.hid (Bk.rhand_zero (by rw [HH.out, HWn.out, if_neg (fun q => by have := q.2; rw [this] at hc; exact absurd hc (by decide))]))
          go_wp2_with (go_at_call 108; refine (rword_any _ _).mono ?_; rintro e w' ⟨rfl, rfl⟩)
          go_ret
          exact ⟨ret_int (by rw [HE.out]; rfl), rfl⟩
    · have hWn : Bk.wordsN s k = n := by
        rw [HW.out, Bk.runP_eq (p := fun i => Bk.wordB (bt s i)) (n := n - 1) (by omega) H.out (fun _ => by omega)]; omega
      have HE : Hid (Bk.rhandN s k = 1) := Lib.hid (Bk.rhand_zero (by rw [HH.out, hWn, if_neg (fun q => hlt q.1)]))
      clear hWn
      go_wp2
      go_ret
      exact ⟨ret_int (by rw [HE.out]; rfl), rfl⟩
set_option maxHeartbeats 1600000 in
theorem rsuffix_any (s : ByteArray) (k : Nat) (w : World) (hs : s.size ≤ 4611686018427387903) (hk : k ≤ s.size) :
    Calls Tryz.prog 134 #[.string s, .int .i64 k] w fun e w' => e = .returned (.int .i64 (Bk.urisN s true k : Nat)) ∧ w = w' := by
  have hb := get_bt s
  have HU : Hid (Bk.urisN s true k = Bk.runP (Bk.okB s true) (s.size - k) k) := Lib.hid rfl
  go_enter Tryz.func134, Tryz.ntmps134
  go_wp2
  go_loop [5] (fun i => ∃ n : Nat, k + n ≤ s.size ∧ i = .int .i64 n ∧ Hid (∀ j, j < n → Bk.okB s true (k + j) = true)) (fun i => s.size - (intOf i).toNat)
  case atStart => exact ⟨0, by omega, rfl, Lib.hid fun j h => absurd h (by omega)⟩
  case round =>
    obtain ⟨n, hn, rfl, H⟩ := hrel
    rcases Bk.unit_way s (k + n) with ⟨u0, hno⟩ | ⟨u0, hlt, huri, h37⟩ | ⟨u0, hlt, o1, o2, o3, h33, hfl⟩
    · have HE := Lib.hid (HU.out.trans (Bk.runP_eq (by omega) H.out (fun h => hno (by omega) true)))
      clear hno
      go_wp2_with (go_at_call 133; refine (runit_any s (k + n) _ hs).mono ?_; rintro e w' ⟨rfl, rfl⟩)
      go_ret
      exact ⟨ret_int (by rw [HE.out]), rfl⟩
    · have HOK : Hid (Bk.okB s true (k + n) = !((bt s (k + n) == 33) || Bk.flowB (bt s (k + n)))) := Lib.hid (by unfold Bk.okB; rw [huri, h37]; simp)
      clear huri h37
      cases h33 : (bt s (k + n) == 33) with
      | true =>
        have HE := Lib.hid (HU.out.trans (Bk.runP_eq (by omega) H.out (fun h => by rw [HOK.out, h33]; rfl)))
        go_wp2_with (go_at_call 133; refine (runit_any s (k + n) _ hs).mono ?_; rintro e w' ⟨rfl, rfl⟩)
        go_ret
        exact ⟨ret_int (by rw [HE.out]), rfl⟩
      | false =>
        cases hfl : Bk.flowB (bt s (k + n)) with
        | true =>
          have HE := Lib.hid (HU.out.trans (Bk.runP_eq (by omega) H.out (fun h => by rw [HOK.out, hfl]; simp)))
          go_wp2_with first
            | (go_at_call 133; refine (runit_any s (k + n) _ hs).mono ?_; rintro e w' ⟨rfl, rfl⟩)
            | (go_at_call 93; refine (rflow_any _ _).mono ?_; rintro e w' ⟨rfl, rfl⟩)
          go_ret
          exact ⟨ret_int (by rw [HE.out]), rfl⟩
        | false =>
          have HK : Hid (Bk.okB s true (k + n) = true) := Lib.hid (by rw [HOK.out, h33, hfl]; rfl)
          go_wp2_with first
            | (go_at_call 133; refine (runit_any s (k + n) _ hs).mono ?_; rintro e w' ⟨rfl, rfl⟩)
            | (go_at_call 93; refine (rflow_any _ _).mono ?_; rintro e w' ⟨rfl, rfl⟩)
          go_round
          case rel =>
            refine ⟨n + 1, by omega, by go_num, Lib.hid fun j hj => ?_⟩
            by_cases e : j = n
            · subst e; exact HK.out
            · exact H.out j (by omega)
          case measure => simp [intOf]; omega
    · have HK : Hid (Bk.okB s true (k + n) = true ∧ Bk.okB s true (k + n + 1) = true ∧ Bk.okB s true (k + n + 2) = true) := Lib.hid ⟨o1 true, o2 true, o3 true⟩
      clear o1 o2 o3
      go_wp2_with first
        | (go_at_call 133; refine (runit_any s (k + n) _ hs).mono ?_; rintro e w' ⟨rfl, rfl⟩)
        | (go_at_call 93; refine (rflow_any _ _).mono ?_; rintro e w' ⟨rfl, rfl⟩)
      go_round
      case rel =>
        refine ⟨n + 3, by omega, by go_num, Lib.hid fun j hj => ?_⟩
        rcases (by omega : j < n ∨ j = n ∨ j = n + 1 ∨ j = n + 2) with e | e | e | e
        · exact H.out j e
        · subst e; exact HK.out.1
        · subst e; exact HK.out.2.1
        · subst e; exact HK.out.2.2
      case measure => simp [intOf]; omega
namespace Bk
/-- The size of a tag, as the reference tells it. -/
theorem size_ref {s : ByteArray} {k : Nat} :
    (k + 1 < s.size → bt s (k + 1) = 60 → ¬ (0 < urisN s false (k + 2) ∧ k + 2 + urisN s false (k + 2) < s.size ∧ bt s (k + 2 + urisN s false (k + 2)) = 62) → sizeN s k = 1) ∧
    (¬ (k + 1 < s.size ∧ bt s (k + 1) = 60) → sizeN s k = if 0 < urisN s true (k + rhandN s k) then rhandN s k + urisN s true (k + rhandN s k) else if 0 < urisN s true (k + 1) then 1 + urisN s true (k + 1) else 1) := by
  constructor
  · intro h1 h60 hn
    have hw : wordsN s k = 1 := by
      unfold wordsN
      rw [runP_eq (p := fun i => wordB (bt s i)) (n := 0) (Nat.zero_le _) (fun j h => absurd h (Nat.not_lt_zero j)) (fun _ => by show wordB (bt s (k + 1 + 0)) = false; rw [Nat.add_zero, h60]; rfl)]
    have hh : handN s k = 0 := by
      unfold handN; rw [hw, if_neg]; rintro ⟨_, q⟩; rw [h60] at q; exact absurd q (by decide)
    have hu : urisN s true (k + 1) = 0 := by
      unfold urisN
      refine runP_eq (Nat.zero_le _) (fun j h => absurd h (Nat.not_lt_zero j)) (fun _ => ?_)
      rw [Nat.add_zero]; unfold okB; rw [h60]; rfl
    unfold sizeN
    rw [if_neg (fun q => hn q.2.2), hh, if_neg (by omega), hu]
  · intro hc
    unfold sizeN rhandN
    rw [if_neg (fun q => hc ⟨q.1, q.2.1⟩)]
    by_cases e : handN s k = 0
    · rw [if_pos e, if_neg (by omega)]
      by_cases e2 : 0 < urisN s true (k + 1)
      · rw [if_pos e2]
      · rw [if_neg e2, if_neg e2]; omega
    · rw [if_neg e]
      by_cases e2 : 0 < urisN s true (k + handN s k)
      · rw [if_pos ⟨by omega, e2⟩, if_pos e2]
      · rw [if_neg (fun q => e2 q.2), if_neg e2]
        split <;> omega
end Bk
end Go.Proofs.YtlmjabnkjmfcmaaGreat
/- The reference's Size: contract. -/
namespace Go.Proofs.YtlmjabnkjmfcmaaGreat
open Go Go.RowKit Go.PlainAid
set_option linter.unusedVariables false
theorem Bk.rhandN_le {s : ByteArray} {k : Nat} (h : k < s.size) : k + Bk.rhandN s k ≤ s.size ∧ 1 ≤ Bk.rhandN s k := by
  have := Bk.hand_le (s := s) (k := k)
  unfold Bk.rhandN
  split <;> omega
set_option maxHeartbeats 3200000 in
theorem rsize_any (s : ByteArray) (k : Nat) (w : World) (hs : s.size ≤ 4611686018427387903) (hk : k < s.size) (h33 : bt s k = 33) :
    Calls Tryz.prog 123 #[.string s, .int .i64 k] w fun e w' => e = .returned (.int .i64 (Bk.sizeN s k : Nat)) ∧ w = w' := by
  have hb := get_bt s
  have hbs : (bt s k != 33) = false := by rw [h33]; rfl
  have HR := Lib.hid (Bk.size_ref (s := s) (k := k))
  have d0 : decide ((k : Int) < 0) = false := by simp
  have d1 : decide (s.size ≤ k) = false := by simpa using hk
  clear h33
  by_cases hcut : k + 1 < s.size ∧ bt s (k + 1) = 60
  · obtain ⟨c1, c2⟩ := hcut
    have h60 : (bt s (k + 1) == 60) = true := by rw [c2]; rfl
    have C2 := Lib.hid c2
    clear c2
    have HU : Hid (Bk.urisN s false (k + 2) = Bk.runP (Bk.okB s false) (s.size - (k + 2)) (k + 2)) := Lib.hid rfl
    have HSZ : Hid (Bk.sizeN s k = if k + 1 < s.size ∧ bt s (k + 1) = 60 ∧ 0 < Bk.urisN s false (k + 2) ∧ k + 2 + Bk.urisN s false (k + 2) < s.size ∧ bt s (k + 2 + Bk.urisN s false (k + 2)) = 62 then Bk.urisN s false (k + 2) + 3
      else if 0 < Bk.handN s k ∧ 0 < Bk.urisN s true (k + Bk.handN s k) then Bk.handN s k + Bk.urisN s true (k + Bk.handN s k) else 1 + Bk.urisN s true (k + 1)) := Lib.hid rfl
    go_enter Tryz.func123, Tryz.ntmps123
    go_wp2
    go_loop [5] (fun i => ∃ n : Nat, 2 ≤ n ∧ (n = 2 ∨ k + n ≤ s.size) ∧ i = .int .i64 n ∧ Hid (∀ j, j < n - 2 → Bk.okB s false (k + 2 + j) = true)) (fun i => s.size + 2 - (intOf i).toNat)
    case atStart => exact ⟨2, by omega, by omega, rfl, Lib.hid fun j h => absurd h (by omega)⟩
    case round =>
      obtain ⟨n, h2, hn, rfl, H⟩ := hrel
      rcases Bk.unit_way s (k + n) with ⟨u0, hno⟩ | ⟨u0, hlt, huri, h37⟩ | ⟨u0, hlt, o1, o2, o3, h33, hfl⟩
      · have HE : Hid (Bk.urisN s false (k + 2) = n - 2) := Lib.hid (HU.out.trans (Bk.runP_eq (by omega) H.out (fun h => by rw [show k + 2 + (n - 2) = k + n from by omega]; exact hno (by omega) false)))
        clear hno
        by_cases hgt : 2 < n ∧ k + n < s.size ∧ bt s (k + n) = 62
        · obtain ⟨g1, g2, g3⟩ := hgt
          have HF : Hid (Bk.sizeN s k = n + 1) := Lib.hid (by
            rw [HSZ.out, HE.out, if_pos ⟨c1, C2.out, by omega, by omega, by rw [show k + 2 + (n - 2) = k + n from by omega]; exact g3⟩]; omega)
          have g4 : (bt s (k + n) == 62) = true := by rw [g3]; rfl
          clear g3
          go_wp2_with (go_at_call 133; refine (runit_any s (k + n) _ hs).mono ?_; rintro e w' ⟨rfl, rfl⟩)
          go_ret
          exact ⟨ret_int (by rw [HF.out]; omega), rfl⟩
        · have HF : Hid (Bk.sizeN s k = 1) := Lib.hid (HR.out.1 c1 C2.out (by
            rw [HE.out, show k + 2 + (n - 2) = k + n from by omega]
            rintro ⟨q1, q2, q3⟩
            exact hgt ⟨by omega, q2, q3⟩))
          have hway : n ≤ 2 ∨ (2 < n ∧ s.size ≤ k + n) ∨ (2 < n ∧ k + n < s.size ∧ (bt s (k + n) == 62) = false) := by
            by_cases q1 : 2 < n
            · by_cases q2 : k + n < s.size
              · exact .inr (.inr ⟨q1, q2, by simpa using fun q3 => hgt ⟨q1, q2, q3⟩⟩)
              · exact .inr (.inl ⟨q1, by omega⟩)
            · exact .inl (by omega)
          clear hgt
          rcases hway with q1 | ⟨q1, q2⟩ | ⟨q1, q2, q3⟩
          all_goals
            go_wp2_with (go_at_call 133; refine (runit_any s (k + n) _ hs).mono ?_; rintro e w' ⟨rfl, rfl⟩)
            go_ret
            exact ⟨ret_int (by rw [HF.out]; rfl), rfl⟩
      · have HK : Hid (Bk.okB s false (k + n) = true) := Lib.hid (by unfold Bk.okB; rw [huri, h37]; simp)
        clear huri h37
        go_wp2_with (go_at_call 133; refine (runit_any s (k + n) _ hs).mono ?_; rintro e w' ⟨rfl, rfl⟩)
        go_round
        case rel =>
          refine ⟨n + 1, by omega, by omega, by go_num, Lib.hid fun j hj => ?_⟩
          by_cases e : j = n - 2
          · subst e; rw [show k + 2 + (n - 2) = k + n from by omega]; exact HK.out
          · exact H.out j (by omega)
        case measure => simp [intOf]; omega
      · have HK : Hid (Bk.okB s false (k + n) = true ∧ Bk.okB s false (k + n + 1) = true ∧ Bk.okB s false (k + n + 2) = true) := Lib.hid ⟨o1 false, o2 false, o3 false⟩
        clear o1 o2 o3
        go_wp2_with (go_at_call 133; refine (runit_any s (k + n) _ hs).mono ?_; rintro e w' ⟨rfl, rfl⟩)
        go_round
        case rel =>
          refine ⟨n + 3, by omega, by omega, by go_num, Lib.hid fun j hj => ?_⟩
          rcases (by omega : j < n - 2 ∨ j = n - 2 ∨ j = n - 1 ∨ j = n) with e | e | e | e
          · exact H.out j e
          · subst e; rw [show k + 2 + (n - 2) = k + n from by omega]; exact HK.out.1
          · subst e; rw [show k + 2 + (n - 1) = k + n + 1 from by omega]; exact HK.out.2.1
          · subst e; rw [show k + 2 + j = k + j + 2 from by omega]; exact HK.out.2.2
        case measure => simp [intOf]; omega
  · have HF := Lib.hid (HR.out.2 hcut)
    have hcw : k + 1 < s.size → (bt s (k + 1) == 60) = false := fun q => by simpa using fun q2 => hcut ⟨q, q2⟩
    have hr := Bk.rhandN_le hk
    have u1 := Bk.uris_le s true (k + Bk.rhandN s k)
    have u2 := Bk.uris_le s true (k + 1)
    have E1 : Hid ((k : Int) + (Bk.rhandN s k : Nat) = ((k + Bk.rhandN s k : Nat) : Int)) := Lib.hid (by omega)
    have E2 : Hid ((k : Int) + 1 = ((k + 1 : Nat) : Int)) := Lib.hid (by omega)
    clear hcut
    by_cases c1 : k + 1 < s.size
    all_goals
      (try have h60 := hcw c1)
      clear hcw
      by_cases e1 : 0 < Bk.urisN s true (k + Bk.rhandN s k)
      · have HG : Hid (Bk.sizeN s k = Bk.rhandN s k + Bk.urisN s true (k + Bk.rhandN s k)) := Lib.hid (by rw [HF.out, if_pos e1])
        go_enter Tryz.func123, Tryz.ntmps123
        go_wp2_with first
          | (go_at_call 92; refine (rhandle_any _ _ _ hs hk).mono ?_; rintro e w' ⟨rfl, rfl⟩)
          | (go_at_call 134; rw [E1.out]; with_reducible refine (rsuffix_any s (k + Bk.rhandN s k) _ hs (by omega)).mono ?_; rintro e w' ⟨rfl, rfl⟩)
        all_goals (go_ret; exact ⟨ret_int (by rw [HG.out]; omega), rfl⟩)
      · by_cases e2 : 0 < Bk.urisN s true (k + 1)
        · have HG : Hid (Bk.sizeN s k = 1 + Bk.urisN s true (k + 1)) := Lib.hid (by rw [HF.out, if_neg e1, if_pos e2])
          go_enter Tryz.func123, Tryz.ntmps123
          go_wp2_with first
            | (go_at_call 92; refine (rhandle_any _ _ _ hs hk).mono ?_; rintro e w' ⟨rfl, rfl⟩)
            | (go_at_call 134; rw [E1.out]; with_reducible refine (rsuffix_any s (k + Bk.rhandN s k) _ hs (by omega)).mono ?_; rintro e w' ⟨rfl, rfl⟩)
            | (go_at_call 134; rw [E2.out]; with_reducible refine (rsuffix_any s (k + 1) _ hs (by omega)).mono ?_; rintro e w' ⟨rfl, rfl⟩)
          all_goals (go_ret; exact ⟨ret_int (by rw [HG.out]; omega), rfl⟩)
        · have HG : Hid (Bk.sizeN s k = 1) := Lib.hid (by rw [HF.out, if_neg e1, if_neg e2])
          go_enter Tryz.func123, Tryz.ntmps123
          go_wp2_with first
            | (go_at_call 92; refine (rhandle_any _ _ _ hs hk).mono ?_; rintro e w' ⟨rfl, rfl⟩)
            | (go_at_call 134; rw [E1.out]; with_reducible refine (rsuffix_any s (k + Bk.rhandN s k) _ hs (by omega)).mono ?_; rintro e w' ⟨rfl, rfl⟩)
            | (go_at_call 134; rw [E2.out]; with_reducible refine (rsuffix_any s (k + 1) _ hs (by omega)).mono ?_; rintro e w' ⟨rfl, rfl⟩)
          all_goals (go_ret; exact ⟨ret_int (by rw [HG.out]; rfl), rfl⟩)
end Go.Proofs.YtlmjabnkjmfcmaaGreat
/- What properties stand at a place: plain; the reader's method one: contract. -/
namespace Go.Proofs.YtlmjabnkjmfcmaaGreat
open Go Go.RowKit Go.PlainAid
set_option linter.unusedVariables false
namespace Bk
/-- The property at a place: where it ends, what is wrong, the anchor and the tag then. -/
def oneN (s : ByteArray) (p : Nat) (a t : ByteArray) : Nat × Int × ByteArray × ByteArray :=
  if s.size ≤ p then (p, 0, a, t)
  else if bt s p = 38 then (if nameN s ((p + 1 : Nat) : Int) = 0 ∨ a.toList.isEmpty = false then (p, 5, a, t) else (p + 1 + nameN s ((p + 1 : Nat) : Int), 0, s.extract (p + 1) (p + 1 + nameN s ((p + 1 : Nat) : Int)), t))
  else if bt s p = 33 then (if t.toList.isEmpty = false then (p, 5, a, t) else (p + sizeN s p, 0, a, s.extract p (p + sizeN s p)))
  else (p, 0, a, t)
theorem nameN_le {s : ByteArray} {k : Nat} (h : k ≤ s.size) : k + nameN s (k : Int) ≤ s.size := by
  have key : ∀ f k, k ≤ s.size → k + runN s f k ≤ s.size := by
    intro f
    induction f with
    | zero => intro k h; simpa [runN] using h
    | succ f ih =>
      intro k h
      unfold runN
      split
      · rename_i q; have := ih (k + 1) (by omega); omega
      · omega
  unfold nameN
  rw [if_neg (by omega), Int.toNat_natCast]
  exact key _ _ h
end Bk
end Go.Proofs.YtlmjabnkjmfcmaaGreat
/- Read of package prop: contract. -/
namespace Go.Proofs.YtlmjabnkjmfcmaaGreat
open Go Go.RowKit Go.PlainAid
set_option linter.unusedVariables false
namespace Bk
/-- The properties from a place on. -/
def readP (s : ByteArray) (flow : Bool) : Nat → Nat → ByteArray → ByteArray → Nat → ByteArray × ByteArray × Nat × Int
  | 0, _, a, t, e => (a, t, e, 0)
  | f + 1, p, a, t, e =>
    if (oneN s p a t).2.1 ≠ 0 then (ByteArray.empty, ByteArray.empty, (oneN s p a t).1, (oneN s p a t).2.1)
    else if (oneN s p a t).1 = p then ((oneN s p a t).2.2.1, (oneN s p a t).2.2.2, e, 0)
    else if endsB s ((oneN s p a t).1 : Int) = false ∧ (flow && flowB (bt s (oneN s p a t).1)) = false then (ByteArray.empty, ByteArray.empty, (oneN s p a t).1, 5)
    else if firstN s (oneN s p a t).1 s.size = (oneN s p a t).1 then ((oneN s p a t).2.2.1, (oneN s p a t).2.2.2, (oneN s p a t).1, 0)
    else readP s flow f (firstN s (oneN s p a t).1 s.size) (oneN s p a t).2.2.1 (oneN s p a t).2.2.2 (oneN s p a t).1
theorem one_way (s : ByteArray) (p : Nat) (a t : ByteArray) : ((oneN s p a t).2.1 = 5 ∧ (oneN s p a t).1 = p) ∨ ((oneN s p a t).2.1 = 0 ∧ ((oneN s p a t).1 = p ∨ (p < (oneN s p a t).1 ∧ (oneN s p a t).1 ≤ s.size))) := by
  unfold oneN
  split
  · exact .inr ⟨rfl, .inl rfl⟩
  · rename_i h
    split
    · split
      · exact .inl ⟨rfl, rfl⟩
      · have := nameN_le (s := s) (k := p + 1) (by omega)
        exact .inr ⟨rfl, .inr ⟨by show p < p + 1 + _; omega, by show p + 1 + _ ≤ _; omega⟩⟩
    · split
      · split
        · exact .inl ⟨rfl, rfl⟩
        · have := size_le (s := s) (k := p) (by omega)
          exact .inr ⟨rfl, .inr ⟨by show p < p + _; omega, by show p + _ ≤ _; omega⟩⟩
      · exact .inr ⟨rfl, .inl rfl⟩
/-- All that Read tells of any place. -/
def readA (s : ByteArray) (at_ : Int) (flow : Bool) : ByteArray × ByteArray × Int × Int :=
  if at_ < 0 then (ByteArray.empty, ByteArray.empty, at_, 0)
  else ((readP s flow (s.size + 1) at_.toNat ByteArray.empty ByteArray.empty at_.toNat).1, (readP s flow (s.size + 1) at_.toNat ByteArray.empty ByteArray.empty at_.toNat).2.1, ((readP s flow (s.size + 1) at_.toNat ByteArray.empty ByteArray.empty at_.toNat).2.2.1 : Int), (readP s flow (s.size + 1) at_.toNat ByteArray.empty ByteArray.empty at_.toNat).2.2.2)
end Bk
/-- What Read hands back. -/
def back4 (R : ByteArray × ByteArray × Nat × Int) : Ending := .returned (.tuple #[.string R.1, .string R.2.1, .int .i64 (R.2.2.1 : Int), .int .i64 R.2.2.2])
end Go.Proofs.YtlmjabnkjmfcmaaGreat
/- Kind and Above of package rows, and of the reference: contracts. -/
namespace Go.Proofs.YtlmjabnkjmfcmaaGreat
open Go Go.RowKit Go.PlainAid
end Go.Proofs.YtlmjabnkjmfcmaaGreat
/- The reference's Kind: contract. -/
namespace Go.Proofs.YtlmjabnkjmfcmaaGreat
open Go Go.RowKit Go.PlainAid
namespace Bk
theorem dash_at {s : ByteArray} {k : Nat} {c : Int} (h : dash3 s k c = true) : k + 3 ≤ s.size ∧ bt s k = c ∧ bt s (k + 1) = c ∧ bt s (k + 2) = c := by
  simpa [dash3, and_assoc] using h
theorem mark_room {s : ByteArray} {k f t : Nat} {c : Int} (hf : f ≤ k) (hg : k ≤ t) (ht : t ≤ s.size) (he : t < s.size → bt s t = 10) (hc : c ≠ 10) (h : dash3 s f c = true) : f + 3 ≤ t := by
  obtain ⟨h0, h1, h2, h3⟩ := dash_at h
  apply Nat.le_of_not_lt
  intro hlt
  have := he (by omega)
  rcases (by omega : t = f ∨ t = f + 1 ∨ t = f + 2) with e | e | e <;> rw [e] at this <;> omega
theorem cut3 {s : ByteArray} {k : Nat} (h : k + 3 ≤ s.size) (c : UInt8) : ((s.extract k (k + 3)).toList == [c, c, c]) = dash3 s k (c.toNat : Int) := by
  have e0 := get_bt s k (by omega)
  have e1 := get_bt s (k + 1) (by omega)
  have e2 := get_bt s (k + 2) (by omega)
  have hl : (s.extract k (k + 3)).toList = [s[k], s[k + 1], s[k + 2]] := by
    rw [Lib.toList_data]
    have hlen : s.data.toList.length = s.size := by simp
    simp only [ByteArray.data_extract, Array.toList_extract, List.extract_eq_take_drop]
    rw [show k + 3 - k = 3 from by omega, List.drop_eq_getElem_cons (by omega), List.drop_eq_getElem_cons (by omega), List.drop_eq_getElem_cons (by omega)]
    rfl
  rw [hl]
  unfold dash3
  rw [← e0, ← e1, ← e2, Bool.eq_iff_iff]
  have q : ∀ (a b : UInt8), ((a.toNat : Int) = (b.toNat : Int)) ↔ a = b := fun a b => ⟨fun e => (UInt8.toNat_inj.1 (by omega)), fun e => by rw [e]⟩
  simp [h, q, and_assoc]
end Bk
set_option maxHeartbeats 1600000 in
theorem rkind_any (s : ByteArray) (a : Int) (w : World) (hs : s.size ≤ 4611686018427387903) :
    Calls Tryz.prog 30 #[.string s, .int .i64 a] w fun e w' => e = .returned (.int .i64 (Bk.kindN s (Bk.heldN s a))) ∧ w = w' := by
  have hb := get_bt s
  have hh := Bk.heldN_le s a
  have hf := Bk.fromN_le s (Bk.heldN s a)
  have hg := Bk.toN_ge s (Bk.heldN s a)
  have ht := Bk.toN_le hh
  have hend := @Bk.toN_end s (Bk.heldN s a)
  have hp := Bk.firstN_le (s := s) (k := Bk.fromN s (Bk.heldN s a)) (m := Bk.toN s (Bk.heldN s a)) (by omega)
  have hp0 := Bk.firstN_ge s (Bk.fromN s (Bk.heldN s a)) (Bk.toN s (Bk.heldN s a))
  have HK : Hid (Bk.kindN s (Bk.heldN s a) = if Bk.markB s (Bk.fromN s (Bk.heldN s a)) 45 then 3 else if Bk.markB s (Bk.fromN s (Bk.heldN s a)) 46 then 4
    else if Bk.firstN s (Bk.fromN s (Bk.heldN s a)) (Bk.toN s (Bk.heldN s a)) = Bk.toN s (Bk.heldN s a) then 1 else if bt s (Bk.firstN s (Bk.fromN s (Bk.heldN s a)) (Bk.toN s (Bk.heldN s a))) = 35 then 2 else 5) := Lib.hid rfl
  obtain ⟨K, hK⟩ : ∃ K, K = Bk.kindN s (Bk.heldN s a) := ⟨_, rfl⟩
  rw [← hK] at HK ⊢
  clear hK
  obtain ⟨f, hF⟩ : ∃ f, f = Bk.fromN s (Bk.heldN s a) := ⟨_, rfl⟩
  obtain ⟨t, hT⟩ : ∃ t, t = Bk.toN s (Bk.heldN s a) := ⟨_, rfl⟩
  rw [← hF, ← hT] at hp hp0 HK
  rw [← hF] at hf
  rw [← hT] at hg ht hend
  obtain ⟨p, hP⟩ : ∃ p, p = Bk.firstN s f t := ⟨_, rfl⟩
  rw [← hP] at hp hp0 HK
  have HF := Lib.hid hF
  have HT := Lib.hid hT
  have HP := Lib.hid hP
  clear hF hT hP
  have hr45 : Bk.dash3 s f 45 = true → f + 3 ≤ t := Bk.mark_room hf hg ht hend (by decide)
  have hr46 : Bk.dash3 s f 46 = true → f + 3 ≤ t := Bk.mark_room hf hg ht hend (by decide)
  clear hend
  cases hm : Bk.markB s f 45 with
  | true =>
    have HE : Hid (K = 3) := Lib.hid (by rw [HK.out, hm]; rfl)
    have hm' : Bk.dash3 s f 45 = true ∧ Bk.endsB s ((f : Int) + 3) = true := by simpa [Bk.markB] using hm
    obtain ⟨hd, he⟩ := hm'
    have h3 := hr45 hd
    have h1 : ((s.extract f (f + 3)).toList == [45, 45, 45]) = true := (Bk.cut3 (by omega) 45).trans hd
    clear hr45 hr46 hm hd
    go_enter Tryz.func30, Tryz.ntmps30
    go_wp2_with first
      | (go_at_call 32; refine (rrow_any _ _ _ hs).mono ?_; rintro e w' ⟨rfl, rfl⟩; rw [← HF.out, ← HT.out])
      | (go_at_call 61; refine (rends_any _ _ _).mono ?_; rintro e w' ⟨rfl, rfl⟩)
    go_ret
    exact ⟨ret_int HE.out.symm, rfl⟩
  | false =>
    cases hm2 : Bk.markB s f 46 with
    | true =>
      have HE : Hid (K = 4) := Lib.hid (by rw [HK.out, hm, hm2]; rfl)
      have hm' : Bk.dash3 s f 46 = true ∧ Bk.endsB s ((f : Int) + 3) = true := by simpa [Bk.markB] using hm2
      obtain ⟨hd, he⟩ := hm'
      have h3 := hr46 hd
      have h1 : ((s.extract f (f + 3)).toList == [46, 46, 46]) = true := (Bk.cut3 (by omega) 46).trans hd
      have h2 : ((s.extract f (f + 3)).toList == [45, 45, 45]) = false := by
        refine (Bk.cut3 (by omega) 45).trans ?_
        show Bk.dash3 s f 45 = false
        cases h4 : Bk.dash3 s f 45 with
        | false => rfl
        | true => have := (Bk.dash_at h4).2.1; have := (Bk.dash_at hd).2.1; omega
      clear hr45 hr46 hm hm2 hd
      go_enter Tryz.func30, Tryz.ntmps30
      go_wp2_with first
        | (go_at_call 32; refine (rrow_any _ _ _ hs).mono ?_; rintro e w' ⟨rfl, rfl⟩; rw [← HF.out, ← HT.out])
        | (go_at_call 61; refine (rends_any _ _ _).mono ?_; rintro e w' ⟨rfl, rfl⟩)
      go_ret
      exact ⟨ret_int HE.out.symm, rfl⟩
    | false =>
      have hway : t < f + 3 ∨ (f + 3 ≤ t ∧ Bk.endsB s ((f : Int) + 3) = false) ∨ (f + 3 ≤ t ∧ Bk.endsB s ((f : Int) + 3) = true ∧ ((s.extract f (f + 3)).toList == [45, 45, 45]) = false ∧ ((s.extract f (f + 3)).toList == [46, 46, 46]) = false) := by
        by_cases h3 : f + 3 ≤ t
        · cases he : Bk.endsB s ((f : Int) + 3) with
          | false => exact .inr (.inl ⟨h3, rfl⟩)
          | true =>
            refine .inr (.inr ⟨h3, rfl, (Bk.cut3 (by omega) 45).trans ?_, (Bk.cut3 (by omega) 46).trans ?_⟩)
            · simpa [Bk.markB, he] using hm
            · simpa [Bk.markB, he] using hm2
        · exact .inl (by omega)
      clear hr45 hr46
      have HMM := Lib.hid (And.intro hm hm2)
      clear hm hm2
      rcases hway with hw | ⟨hw, hw2⟩ | ⟨hw, hw2, hw3, hw4⟩
      all_goals
        by_cases hpt : p = t
        · have HE : Hid (K = 1) := Lib.hid (by rw [HK.out, HMM.out.1, HMM.out.2, if_pos hpt]; rfl)
          have h1 : (((p : Int)) == (t : Int)) = true := by simp [hpt]
          have hpt' := Lib.hid hpt; clear hpt
          go_enter Tryz.func30, Tryz.ntmps30
          go_wp2_with first
            | (go_at_call 32; refine (rrow_any _ _ _ hs).mono ?_; rintro e w' ⟨rfl, rfl⟩; rw [← HF.out, ← HT.out])
            | (go_at_call 61; refine (rends_any _ _ _).mono ?_; rintro e w' ⟨rfl, rfl⟩)
            | (go_at_call 33; refine (rfirst_any s f t _ hs ht).mono ?_; rintro e w' ⟨rfl, rfl⟩; rw [← HP.out])
          go_ret
          exact ⟨ret_int HE.out.symm, rfl⟩
        · have hlt : p < t := by omega
          cases hc : (bt s p == 35) with
          | true =>
            have HE : Hid (K = 2) := Lib.hid (by rw [HK.out, HMM.out.1, HMM.out.2]; simp [hpt]; simpa using hc)
            go_enter Tryz.func30, Tryz.ntmps30
            go_wp2_with first
              | (go_at_call 32; refine (rrow_any _ _ _ hs).mono ?_; rintro e w' ⟨rfl, rfl⟩; rw [← HF.out, ← HT.out])
              | (go_at_call 61; refine (rends_any _ _ _).mono ?_; rintro e w' ⟨rfl, rfl⟩)
              | (go_at_call 33; refine (rfirst_any s f t _ hs ht).mono ?_; rintro e w' ⟨rfl, rfl⟩; rw [← HP.out])
            go_ret
            exact ⟨ret_int HE.out.symm, rfl⟩
          | false =>
            have HE : Hid (K = 5) := Lib.hid (by rw [HK.out, HMM.out.1, HMM.out.2]; simp [hpt]; simpa using hc)
            go_enter Tryz.func30, Tryz.ntmps30
            go_wp2_with first
              | (go_at_call 32; refine (rrow_any _ _ _ hs).mono ?_; rintro e w' ⟨rfl, rfl⟩; rw [← HF.out, ← HT.out])
              | (go_at_call 61; refine (rends_any _ _ _).mono ?_; rintro e w' ⟨rfl, rfl⟩)
              | (go_at_call 33; refine (rfirst_any s f t _ hs ht).mono ?_; rintro e w' ⟨rfl, rfl⟩; rw [← HP.out])
            go_ret
            exact ⟨ret_int HE.out.symm, rfl⟩
end Go.Proofs.YtlmjabnkjmfcmaaGreat
/- Above of package rows, and of the reference: contracts. -/
namespace Go.Proofs.YtlmjabnkjmfcmaaGreat
open Go Go.RowKit Go.PlainAid
namespace Bk
theorem heldN_nat {s : ByteArray} {k : Nat} (h : k ≤ s.size) : heldN s (k : Int) = k := by unfold heldN; omega
theorem aboveL_enough (s : ByteArray) : ∀ (f g k : Nat), k ≤ f → k ≤ g → aboveL s f k = aboveL s g k
  | 0, 0, _, _, _ => rfl
  | 0, g + 1, k, h, _ => by unfold aboveL; rw [if_pos (by omega)]
  | f + 1, 0, k, _, h => by unfold aboveL; rw [if_pos (by omega)]
  | f + 1, g + 1, k, h1, h2 => by
    unfold aboveL
    by_cases h0 : k = 0
    · rw [if_pos h0, if_pos h0]
    · have := fromN_le s (k - 1)
      rw [if_neg h0, if_neg h0, aboveL_enough s f g (fromN s (k - 1)) (by omega) (by omega)]
/-- How many blank rows stand above a row that begins at k. -/
def upN (s : ByteArray) (k : Nat) : Nat := aboveL s k k
theorem upN_zero (s : ByteArray) : upN s 0 = 0 := rfl
theorem upN_step {s : ByteArray} {k : Nat} (h0 : 0 < k) : upN s k = if kindN s (fromN s (k - 1)) = 1 then upN s (fromN s (k - 1)) + 1 else 0 := by
  obtain ⟨m, rfl⟩ : ∃ m, k = m + 1 := ⟨k - 1, by omega⟩
  have := fromN_le s (m + 1 - 1)
  unfold upN
  rw [show aboveL s (m + 1) (m + 1) = if m + 1 = 0 then 0 else if kindN s (fromN s (m + 1 - 1)) = 1 then aboveL s m (fromN s (m + 1 - 1)) + 1 else 0 from rfl, if_neg (by omega)]
  rw [aboveL_enough s m (fromN s (m + 1 - 1)) _ (by omega) (Nat.le_refl _)]
theorem upN_le (s : ByteArray) (k : Nat) : upN s k ≤ k := aboveL_le s k k
theorem aboveN_is {s : ByteArray} {k : Nat} (h : k ≤ s.size) : aboveN s k = if firstN s (fromN s k) k < k then 0 else upN s (fromN s k) := by
  have := fromN_le s k
  unfold aboveN upN
  rw [aboveL_enough s s.size (fromN s k) _ (by omega) (Nat.le_refl _)]
end Bk
set_option maxHeartbeats 1600000 in
theorem rabove_any (s : ByteArray) (a : Int) (w : World) (hs : s.size ≤ 4611686018427387903) :
    Calls Tryz.prog 90 #[.string s, .int .i64 a] w fun e w' => e = .returned (.int .i64 (Bk.aboveN s (Bk.heldN s a) : Nat)) ∧ w = w' := by
  have hh := Bk.heldN_le s a
  have HA := Lib.hid (Bk.aboveN_is hh)
  obtain ⟨h, hH⟩ : ∃ h, h = Bk.heldN s a := ⟨_, rfl⟩
  rw [← hH] at hh HA ⊢
  have HH := Lib.hid hH
  clear hH
  have hn := Bk.heldN_nat hh
  have hf := Bk.fromN_le s h
  have hp0 := Bk.firstN_ge s (Bk.fromN s h) h
  have hp := Bk.firstN_le (s := s) hf
  by_cases hlt : Bk.firstN s (Bk.fromN s h) h < h
  · have HE : Hid (Bk.aboveN s h = 0) := Lib.hid (by rw [HA.out, if_pos hlt])
    go_enter Tryz.func90, Tryz.ntmps90
    go_wp2_with first
      | (go_at_call 62; refine (rheld_any _ _ _).mono ?_; rintro e w' ⟨rfl, rfl⟩; rw [← HH.out])
      | (go_at_call 32; refine (rrow_any s h _ hs).mono ?_; rintro e w' ⟨rfl, rfl⟩; rw [hn])
      | (go_at_call 33; refine (rfirst_any s (Bk.fromN s h) h _ hs hh).mono ?_; rintro e w' ⟨rfl, rfl⟩)
    go_ret
    exact ⟨ret_int (by rw [HE.out]; rfl), rfl⟩
  · have HE : Hid (Bk.aboveN s h = Bk.upN s (Bk.fromN s h)) := Lib.hid (by rw [HA.out, if_neg hlt])
    go_enter Tryz.func90, Tryz.ntmps90
    go_wp2_with first
      | (go_at_call 62; refine (rheld_any _ _ _).mono ?_; rintro e w' ⟨rfl, rfl⟩; rw [← HH.out])
      | (go_at_call 32; refine (rrow_any s h _ hs).mono ?_; rintro e w' ⟨rfl, rfl⟩; rw [hn])
      | (go_at_call 33; refine (rfirst_any s (Bk.fromN s h) h _ hs hh).mono ?_; rintro e w' ⟨rfl, rfl⟩)
    clear hlt hp hp0 hn
    go_loop [5, 7] (fun i n => ∃ k m : Nat, k ≤ s.size ∧ i = .int .i64 k ∧ n = .int .i64 m ∧ k + m ≤ s.size ∧ Hid (Bk.aboveN s h = Bk.upN s k + m)) (fun i _ => (intOf i).toNat)
    case atStart => exact ⟨Bk.fromN s h, 0, by omega, rfl, rfl, by omega, Lib.hid (by rw [HE.out, Nat.add_zero])⟩
    case round =>
      obtain ⟨k, m, hk, rfl, rfl, hkm, H⟩ := hrel
      by_cases h0 : 0 < k
      · have e1 : ((k : Int) - 1) = ((k - 1 : Nat) : Int) := by omega
        have hn := Bk.heldN_nat (s := s) (k := k - 1) (by omega)
        have hq := Bk.fromN_le s (k - 1)
        have hn2 := Bk.heldN_nat (s := s) (k := Bk.fromN s (k - 1)) (by omega)
        have HS := Lib.hid (Bk.upN_step (s := s) h0)
        have HN := Lib.hid hn
        have HN2 := Lib.hid hn2
        have E1 := Lib.hid e1
        clear hn hn2 e1
        cases hc : (Bk.kindN s (Bk.fromN s (k - 1)) != 1) with
        | true =>
          have HE2 := Lib.hid (show Bk.aboveN s h = m from by rw [H.out, HS.out, if_neg (by simpa using hc)]; omega)
          go_wp2_with first
            | (go_at_call 32; rw [E1.out]; refine (rrow_any s _ _ hs).mono ?_; rintro e w' ⟨rfl, rfl⟩; rw [HN.out])
            | (go_at_call 30; refine (rkind_any s _ _ hs).mono ?_; rintro e w' ⟨rfl, rfl⟩; rw [HN2.out])
          go_ret
          exact ⟨ret_int (by rw [HE2.out]), rfl⟩
        | false =>
          have HE2 := Lib.hid (show Bk.aboveN s h = Bk.upN s (Bk.fromN s (k - 1)) + (m + 1) from by rw [H.out, HS.out, if_pos (by simpa using hc)]; omega)
          go_wp2_with first
            | (go_at_call 32; rw [E1.out]; refine (rrow_any s _ _ hs).mono ?_; rintro e w' ⟨rfl, rfl⟩; rw [HN.out])
            | (go_at_call 30; refine (rkind_any s _ _ hs).mono ?_; rintro e w' ⟨rfl, rfl⟩; rw [HN2.out])
          go_round
          case rel => exact ⟨Bk.fromN s (k - 1), m + 1, by omega, rfl, by go_num, by omega, HE2⟩
          case measure => simp [intOf]; omega
      · have HE2 := Lib.hid (show Bk.aboveN s h = m from by rw [H.out, show k = 0 from by omega, Bk.upN_zero]; omega)
        go_wp2
        go_ret
        exact ⟨ret_int (by rw [HE2.out]), rfl⟩
end Go.Proofs.YtlmjabnkjmfcmaaGreat
/- The reference's Props: contract. -/
namespace Go.Proofs.YtlmjabnkjmfcmaaGreat
open Go Go.RowKit Go.PlainAid
set_option linter.unusedVariables false
namespace Bk
theorem tail_way {α : Type} {s : ByteArray} {fl : Bool} {q : Nat} {R A B : α} (h : R = if endsB s (q : Int) = false ∧ (fl && flowB (bt s q)) = false then A else B) :
    (q < s.size ∧ endsB s (q : Int) = false ∧ (fl = false ∨ (fl = true ∧ flowB (bt s q) = false)) ∧ Hid (R = A)) ∨
    (((endsB s (q : Int) = true) ∨ (q < s.size ∧ endsB s (q : Int) = false ∧ fl = true ∧ flowB (bt s q) = true)) ∧ Hid (R = B)) := by
  cases hE : endsB s (q : Int) with
  | true => exact .inr ⟨.inl rfl, Lib.hid (by rw [h, hE]; simp)⟩
  | false =>
    have hql : q < s.size := by
      apply Nat.lt_of_not_le
      intro hh
      have := ends_out (s := s) (a := (q : Int)) (.inr (by omega))
      rw [hE] at this; exact Bool.noConfusion this
    cases hfl : fl with
    | false => exact .inl ⟨hql, rfl, .inl rfl, Lib.hid (by rw [h, hE, hfl]; simp)⟩
    | true =>
      cases hF2 : flowB (bt s q) with
      | false => exact .inl ⟨hql, rfl, .inr ⟨rfl, rfl⟩, Lib.hid (by rw [h, hE, hF2, hfl]; simp)⟩
      | true => exact .inr ⟨.inr ⟨hql, rfl, rfl, rfl⟩, Lib.hid (by rw [h, hE, hF2, hfl]; simp)⟩
theorem first_row {s : ByteArray} {q : Nat} (h : q ≤ s.size) : firstN s q (toN s q) = firstN s q s.size := by
  have h1 := toN_ge s q
  have h2 := toN_le h
  have h3 := firstN_ge s q (toN s q)
  have h4 := firstN_le (s := s) h1
  refine (firstN_eq h3 (by omega) (fun j a b => firstN_all (m := toN s q) a b) (fun hl => ?_)).symm
  by_cases e : firstN s q (toN s q) < toN s q
  · exact firstN_end e
  · have e2 : firstN s q (toN s q) = toN s q := by omega
    rw [e2] at hl ⊢
    rw [toN_end hl]; rfl
/-- One step of readP, by what stands at the place. -/
theorem readP_step (s : ByteArray) (fl : Bool) (f p : Nat) (a t : ByteArray) (e : Nat) :
    ((s.size ≤ p ∨ (p < s.size ∧ (bt s p == 38) = false ∧ (bt s p == 33) = false)) ∧ Hid (readP s fl (f + 1) p a t e = (a, t, e, 0))) ∨
    (p < s.size ∧ (bt s p == 38) = true ∧ nameN s ((p + 1 : Nat) : Int) = 0 ∧ Hid (readP s fl (f + 1) p a t e = (ByteArray.empty, ByteArray.empty, p, 5))) ∨
    (p < s.size ∧ (bt s p == 38) = true ∧ 0 < nameN s ((p + 1 : Nat) : Int) ∧ a.toList.isEmpty = false ∧ Hid (readP s fl (f + 1) p a t e = (ByteArray.empty, ByteArray.empty, p, 5))) ∨
    (p < s.size ∧ (bt s p == 38) = true ∧ 0 < nameN s ((p + 1 : Nat) : Int) ∧ a.toList = [] ∧ Hid (readP s fl (f + 1) p a t e =
      if endsB s ((p + 1 + nameN s ((p + 1 : Nat) : Int) : Nat) : Int) = false ∧ (fl && flowB (bt s (p + 1 + nameN s ((p + 1 : Nat) : Int)))) = false then (ByteArray.empty, ByteArray.empty, p + 1 + nameN s ((p + 1 : Nat) : Int), 5)
      else if firstN s (p + 1 + nameN s ((p + 1 : Nat) : Int)) s.size = p + 1 + nameN s ((p + 1 : Nat) : Int) then (s.extract (p + 1) (p + 1 + nameN s ((p + 1 : Nat) : Int)), t, p + 1 + nameN s ((p + 1 : Nat) : Int), 0)
      else readP s fl f (firstN s (p + 1 + nameN s ((p + 1 : Nat) : Int)) s.size) (s.extract (p + 1) (p + 1 + nameN s ((p + 1 : Nat) : Int))) t (p + 1 + nameN s ((p + 1 : Nat) : Int)))) ∨
    (p < s.size ∧ (bt s p == 38) = false ∧ (bt s p == 33) = true ∧ t.toList.isEmpty = false ∧ Hid (readP s fl (f + 1) p a t e = (ByteArray.empty, ByteArray.empty, p, 5))) ∨
    (p < s.size ∧ (bt s p == 38) = false ∧ (bt s p == 33) = true ∧ t.toList = [] ∧ Hid (readP s fl (f + 1) p a t e =
      if endsB s ((p + sizeN s p : Nat) : Int) = false ∧ (fl && flowB (bt s (p + sizeN s p))) = false then (ByteArray.empty, ByteArray.empty, p + sizeN s p, 5)
      else if firstN s (p + sizeN s p) s.size = p + sizeN s p then (a, s.extract p (p + sizeN s p), p + sizeN s p, 0)
      else readP s fl f (firstN s (p + sizeN s p) s.size) a (s.extract p (p + sizeN s p)) (p + sizeN s p))) := by
  have step : ∀ q er a' t', oneN s p a t = (q, er, a', t') → readP s fl (f + 1) p a t e = if er ≠ 0 then (ByteArray.empty, ByteArray.empty, q, er)
      else if q = p then (a', t', e, 0)
      else if endsB s (q : Int) = false ∧ (fl && flowB (bt s q)) = false then (ByteArray.empty, ByteArray.empty, q, 5)
      else if firstN s q s.size = q then (a', t', q, 0) else readP s fl f (firstN s q s.size) a' t' q := by
    intro q er a' t' h
    show (if (oneN s p a t).2.1 ≠ 0 then _ else _) = _
    rw [h]
  by_cases hlt : p < s.size
  · by_cases h38 : bt s p = 38
    · have hb : (bt s p == 38) = true := by rw [h38]; rfl
      by_cases h0 : nameN s ((p + 1 : Nat) : Int) = 0
      · refine .inr (.inl ⟨hlt, hb, h0, Lib.hid ?_⟩)
        rw [step p 5 a t (by unfold oneN; rw [if_neg (by omega), if_pos h38, if_pos (.inl h0)])]; simp
      · cases ha : a.toList.isEmpty with
        | false =>
          refine .inr (.inr (.inl ⟨hlt, hb, by omega, rfl, Lib.hid ?_⟩))
          rw [step p 5 a t (by unfold oneN; rw [if_neg (by omega), if_pos h38, if_pos (.inr ha)])]; simp
        | true =>
          refine .inr (.inr (.inr (.inl ⟨hlt, hb, by omega, by simpa using ha, Lib.hid ?_⟩)))
          rw [step (p + 1 + nameN s ((p + 1 : Nat) : Int)) 0 (s.extract (p + 1) (p + 1 + nameN s ((p + 1 : Nat) : Int))) t (by
            unfold oneN; rw [if_neg (by omega), if_pos h38, if_neg]
            rintro (q | q)
            · exact h0 q
            · rw [ha] at q; exact Bool.noConfusion q)]
          rw [if_neg (by simp), if_neg (by omega)]
    · have hb : (bt s p == 38) = false := by simpa using h38
      by_cases h33 : bt s p = 33
      · have hb2 : (bt s p == 33) = true := by rw [h33]; rfl
        have hz := size_le hlt
        cases ht : t.toList.isEmpty with
        | false =>
          refine .inr (.inr (.inr (.inr (.inl ⟨hlt, hb, hb2, rfl, Lib.hid ?_⟩))))
          rw [step p 5 a t (by unfold oneN; rw [if_neg (by omega), if_neg h38, if_pos h33, if_pos ht])]; simp
        | true =>
          refine .inr (.inr (.inr (.inr (.inr ⟨hlt, hb, hb2, by simpa using ht, Lib.hid ?_⟩))))
          rw [step (p + sizeN s p) 0 a (s.extract p (p + sizeN s p)) (by unfold oneN; rw [if_neg (by omega), if_neg h38, if_pos h33, if_neg (by rw [ht]; decide)])]
          rw [if_neg (by simp), if_neg (by omega)]
      · refine .inl ⟨.inr ⟨hlt, hb, by simpa using h33⟩, Lib.hid ?_⟩
        rw [step p 0 a t (by unfold oneN; rw [if_neg (by omega), if_neg h38, if_neg h33])]; simp
  · refine .inl ⟨.inl (by omega), Lib.hid ?_⟩
    rw [step p 0 a t (by unfold oneN; rw [if_pos (by omega)])]; simp
end Bk
end Go.Proofs.YtlmjabnkjmfcmaaGreat
/- The reference's Props: contract. -/
namespace Go.Proofs.YtlmjabnkjmfcmaaGreat
open Go Go.RowKit Go.PlainAid
set_option linter.unusedVariables false
set_option maxRecDepth 20000 in
set_option maxHeartbeats 6400000 in
theorem rread_nat (s : ByteArray) (p0 : Nat) (flow : Bool) (w : World) (hs : s.size ≤ 4611686018427387903) (hp0 : p0 ≤ 9223372036854775807) :
    Calls Tryz.prog 115 #[.string s, .int .i64 p0, .bool flow] w fun e w' => e = back4 (Bk.readP s flow (s.size + 1) p0 ByteArray.empty ByteArray.empty p0) ∧ w = w' := by
  have hb := get_bt s
  obtain ⟨R, hR⟩ : ∃ R, R = Bk.readP s flow (s.size + 1) p0 ByteArray.empty ByteArray.empty p0 := ⟨_, rfl⟩
  rw [← hR]
  have HR := Lib.hid hR
  clear hR
  obtain ⟨fl, hfl0⟩ : ∃ fl, fl = flow := ⟨_, rfl⟩
  obtain ⟨F, hF⟩ : ∃ F, F = Bk.readP s fl := ⟨_, rfl⟩
  have HRF : Hid (R = F (s.size + 1) p0 ByteArray.empty ByteArray.empty p0) := Lib.hid (by rw [hF, hfl0]; exact HR.out)
  have HF := Lib.hid hF
  have HFL := Lib.hid hfl0
  clear hF HR hfl0
  cases flow
  all_goals
    go_enter Tryz.func115, Tryz.ntmps115
    go_wp2_with fail
    go_loop [10, 11, 12, 13] (fun i10 i11 i12 i13 => ∃ (f p e : Nat) (a t : ByteArray), (p = p0 ∨ p ≤ s.size) ∧ s.size < f + p ∧ 1 ≤ f ∧ i10 = .string a ∧ i11 = .string t ∧ i12 = .int .i64 e ∧ i13 = .int .i64 p ∧ Hid (R = F f p a t e)) (fun _ _ _ i => s.size - (intOf i).toNat)
    case atStart => exact ⟨s.size + 1, p0, p0, ByteArray.empty, ByteArray.empty, .inl rfl, by omega, by omega, rfl, rfl, rfl, rfl, HRF⟩
    case round =>
      obtain ⟨f, p, e, a, t, hp, hf, hf1, rfl, rfl, rfl, rfl, H0⟩ := hrel
      obtain ⟨f, rfl⟩ : ∃ g, f = g + 1 := ⟨f - 1, by omega⟩
      have E1 : Hid ((p : Int) + 1 = ((p + 1 : Nat) : Int)) := Lib.hid (by omega)
      rcases Bk.readP_step s fl f p a t e with ⟨hw, H⟩ | ⟨hlt, b38, h0, H⟩ | ⟨hlt, b38, h0, ha, H⟩ | ⟨hlt, b38, h0, ha, H⟩ | ⟨hlt, b38, b33, ht, H⟩ | ⟨hlt, b38, b33, ht, H⟩
      · have HE : Hid (R = (a, t, e, 0)) := Lib.hid (by rw [H0.out, HF.out]; exact H.out)
        rcases hw with hw | ⟨hlt, b38, b33⟩
        all_goals
          go_wp2_with fail
          refine bodyPost_ret (v := .tuple #[.string a, .string t, .int .i64 e, .int .i64 0]) (by simp [results, Tryz.results115, go_sem]; try rfl) rfl ⟨by rw [HE.out]; rfl, rfl⟩
      · have HE : Hid (R = (ByteArray.empty, ByteArray.empty, p, 5)) := Lib.hid (by rw [H0.out, HF.out]; exact H.out)
        have H0n := Lib.hid h0
        clear h0
        go_wp2_with (go_at_call 122; rw [E1.out]; refine (rname_any s _ _ (by omega) (by omega)).mono ?_; rintro e w' ⟨rfl, rfl⟩; rw [H0n.out])
        refine bodyPost_ret (v := .tuple #[.string ByteArray.empty, .string ByteArray.empty, .int .i64 p, .int .i64 5]) (by simp [results, Tryz.results115, go_sem]; try rfl) rfl ⟨by rw [HE.out]; rfl, rfl⟩
      · have HE : Hid (R = (ByteArray.empty, ByteArray.empty, p, 5)) := Lib.hid (by rw [H0.out, HF.out]; exact H.out)
        obtain ⟨n, hn⟩ : ∃ n, n = Bk.nameN s ((p + 1 : Nat) : Int) := ⟨_, rfl⟩
        rw [← hn] at h0
        have HNM := Lib.hid hn
        clear hn
        have hnb : ((n : Int) == 0) = false := by simp; omega
        go_wp2_with (go_at_call 122; rw [E1.out]; refine (rname_any s _ _ (by omega) (by omega)).mono ?_; rintro e w' ⟨rfl, rfl⟩; rw [← HNM.out])
        refine bodyPost_ret (v := .tuple #[.string ByteArray.empty, .string ByteArray.empty, .int .i64 p, .int .i64 5]) (by simp [results, Tryz.results115, go_sem]; try rfl) rfl ⟨by rw [HE.out]; rfl, rfl⟩
      · have hnl := Bk.nameN_le (s := s) (k := p + 1) (by omega)
        have H := Lib.hid (H0.out.trans ((congrFun (congrFun (congrFun (congrFun (congrFun HF.out (f + 1)) p) a) t) e).trans H.out))
        obtain ⟨n, hn⟩ : ∃ n, n = Bk.nameN s ((p + 1 : Nat) : Int) := ⟨_, rfl⟩
        rw [← hn] at h0 hnl H
        have HNM := Lib.hid hn
        clear hn
        have hnb : ((n : Int) == 0) = false := by simp; omega
        obtain ⟨q, hq⟩ : ∃ q, q = p + 1 + n := ⟨_, rfl⟩
        rw [← hq] at H
        have hq2 : q ≤ s.size := by omega
        have hpq : p < q := by omega
        have EQ : Hid ((p : Int) + 1 + (n : Int) = (q : Int)) := Lib.hid (by omega)
        have HN := Lib.hid (Bk.heldN_nat hq2)
        have HQ : Hid (p + 1 + n = q) := Lib.hid hq.symm
        rw [← HF.out] at H
        clear hq
        rcases Bk.tail_way H.out with ⟨hql, hE, hfl, HE⟩ | ⟨hw2, HE⟩
        · rcases hfl with hfl | ⟨hfl, hF2⟩ <;> (try (exact absurd (HFL.out.symm.trans hfl) (by decide))) <;> clear hfl
          all_goals
            go_wp2_with first
              | (go_at_call 122; rw [E1.out]; refine (rname_any s _ _ (by omega) (by omega)).mono ?_; rintro e w' ⟨rfl, rfl⟩; rw [← HNM.out])
              | (go_at_call 61; (try rw [EQ.out]); refine (rends_any s q _).mono ?_; rintro e w' ⟨rfl, rfl⟩)
              | (go_at_call 93; refine (rflow_any _ _).mono ?_; rintro e w' ⟨rfl, rfl⟩)
              | (go_at_call 32; refine (rrow_any s q _ hs).mono ?_; rintro e w' ⟨rfl, rfl⟩; rw [HN.out])
              | (go_at_call 33; refine (rfirst_any s q _ _ hs ht3).mono ?_; rintro e w' ⟨rfl, rfl⟩; rw [HFR.out])
            refine bodyPost_ret (v := .tuple #[.string ByteArray.empty, .string ByteArray.empty, .int .i64 q, .int .i64 5]) (by simp [results, Tryz.results115, go_sem]; try rfl) rfl ⟨by rw [HE.out]; rfl, rfl⟩
        · have hq3 := Bk.firstN_ge s q s.size
          have hq4 := Bk.firstN_le (s := s) (k := q) (m := s.size) hq2
          have HFR := Lib.hid (Bk.first_row hq2)
          have ht3 := Bk.toN_le hq2
          rcases hw2 with hE | ⟨hql, hE, hfl, hF2⟩ <;> (try (exact absurd (HFL.out.symm.trans hfl) (by decide))) <;> (try clear hfl)
          all_goals
            by_cases hmq : Bk.firstN s q s.size = q
            · have HV : Hid (R = (s.extract (p + 1) (p + 1 + n), t, q, 0)) := Lib.hid (by rw [HE.out, if_pos hmq, HQ.out])
              have hmb : ((Bk.firstN s q s.size : Int) == (q : Int)) = true := by rw [hmq]; simp
              clear hmq
              go_wp2_with first
                | (go_at_call 122; rw [E1.out]; refine (rname_any s _ _ (by omega) (by omega)).mono ?_; rintro e w' ⟨rfl, rfl⟩; rw [← HNM.out])
                | (go_at_call 61; (try rw [EQ.out]); refine (rends_any s q _).mono ?_; rintro e w' ⟨rfl, rfl⟩)
                | (go_at_call 93; refine (rflow_any _ _).mono ?_; rintro e w' ⟨rfl, rfl⟩)
                | (go_at_call 32; refine (rrow_any s q _ hs).mono ?_; rintro e w' ⟨rfl, rfl⟩; rw [HN.out])
                | (go_at_call 33; refine (rfirst_any s q _ _ hs ht3).mono ?_; rintro e w' ⟨rfl, rfl⟩; rw [HFR.out])
              refine bodyPost_ret (v := .tuple #[.string (s.extract (p + 1) (p + 1 + n)), .string (t), .int .i64 q, .int .i64 0]) (by simp [results, Tryz.results115, go_sem]; try rfl) rfl ⟨by rw [HV.out]; rfl, rfl⟩
            · have HV : Hid (R = F f (Bk.firstN s q s.size) (s.extract (p + 1) (p + 1 + n)) (t) q) := Lib.hid (by rw [HE.out, if_neg hmq, HQ.out])
              have hmb : ((Bk.firstN s q s.size : Int) == (q : Int)) = false := by simp; omega
              clear hmq
              go_wp2_with first
                | (go_at_call 122; rw [E1.out]; refine (rname_any s _ _ (by omega) (by omega)).mono ?_; rintro e w' ⟨rfl, rfl⟩; rw [← HNM.out])
                | (go_at_call 61; (try rw [EQ.out]); refine (rends_any s q _).mono ?_; rintro e w' ⟨rfl, rfl⟩)
                | (go_at_call 93; refine (rflow_any _ _).mono ?_; rintro e w' ⟨rfl, rfl⟩)
                | (go_at_call 32; refine (rrow_any s q _ hs).mono ?_; rintro e w' ⟨rfl, rfl⟩; rw [HN.out])
                | (go_at_call 33; refine (rfirst_any s q _ _ hs ht3).mono ?_; rintro e w' ⟨rfl, rfl⟩; rw [HFR.out])
              go_round
              case rel => exact ⟨f, Bk.firstN s q s.size, q, s.extract (p + 1) (p + 1 + n), t, .inr (by omega), by omega, by omega, rfl, rfl, rfl, rfl, HV⟩
              case measure => simp [intOf]; omega
      · have HE : Hid (R = (ByteArray.empty, ByteArray.empty, p, 5)) := Lib.hid (by rw [H0.out, HF.out]; exact H.out)
        go_wp2_with fail
        refine bodyPost_ret (v := .tuple #[.string ByteArray.empty, .string ByteArray.empty, .int .i64 p, .int .i64 5]) (by simp [results, Tryz.results115, go_sem]; try rfl) rfl ⟨by rw [HE.out]; rfl, rfl⟩
      · have hsz := Bk.size_le hlt
        have H33 : Hid (bt s p = 33) := Lib.hid (beq_iff_eq.1 b33)
        have H := Lib.hid (H0.out.trans ((congrFun (congrFun (congrFun (congrFun (congrFun HF.out (f + 1)) p) a) t) e).trans H.out))
        obtain ⟨q, hq⟩ : ∃ q, q = p + Bk.sizeN s p := ⟨_, rfl⟩
        rw [← hq] at H
        have hq2 : q ≤ s.size := by omega
        have hpq : p < q := by omega
        have EQ : Hid ((p : Int) + (Bk.sizeN s p : Nat) = (q : Int)) := Lib.hid (by omega)
        have HN := Lib.hid (Bk.heldN_nat hq2)
        have HQ : Hid (p + Bk.sizeN s p = q) := Lib.hid hq.symm
        rw [← HF.out] at H
        clear hq
        rcases Bk.tail_way H.out with ⟨hql, hE, hfl, HE⟩ | ⟨hw2, HE⟩
        · rcases hfl with hfl | ⟨hfl, hF2⟩ <;> (try (exact absurd (HFL.out.symm.trans hfl) (by decide))) <;> clear hfl
          all_goals
            go_wp2_with first
              | (go_at_call 123; refine (rsize_any s p _ hs hlt H33.out).mono ?_; rintro e w' ⟨rfl, rfl⟩)
              | (go_at_call 61; (try rw [EQ.out]); refine (rends_any s q _).mono ?_; rintro e w' ⟨rfl, rfl⟩)
              | (go_at_call 93; refine (rflow_any _ _).mono ?_; rintro e w' ⟨rfl, rfl⟩)
              | (go_at_call 32; refine (rrow_any s q _ hs).mono ?_; rintro e w' ⟨rfl, rfl⟩; rw [HN.out])
              | (go_at_call 33; refine (rfirst_any s q _ _ hs ht3).mono ?_; rintro e w' ⟨rfl, rfl⟩; rw [HFR.out])
            refine bodyPost_ret (v := .tuple #[.string ByteArray.empty, .string ByteArray.empty, .int .i64 q, .int .i64 5]) (by simp [results, Tryz.results115, go_sem]; try rfl) rfl ⟨by rw [HE.out]; rfl, rfl⟩
        · have hq3 := Bk.firstN_ge s q s.size
          have hq4 := Bk.firstN_le (s := s) (k := q) (m := s.size) hq2
          have HFR := Lib.hid (Bk.first_row hq2)
          have ht3 := Bk.toN_le hq2
          rcases hw2 with hE | ⟨hql, hE, hfl, hF2⟩ <;> (try (exact absurd (HFL.out.symm.trans hfl) (by decide))) <;> (try clear hfl)
          all_goals
            by_cases hmq : Bk.firstN s q s.size = q
            · have HV : Hid (R = (a, s.extract p (p + Bk.sizeN s p), q, 0)) := Lib.hid (by rw [HE.out, if_pos hmq, HQ.out])
              have hmb : ((Bk.firstN s q s.size : Int) == (q : Int)) = true := by rw [hmq]; simp
              clear hmq
              go_wp2_with first
                | (go_at_call 123; refine (rsize_any s p _ hs hlt H33.out).mono ?_; rintro e w' ⟨rfl, rfl⟩)
                | (go_at_call 61; (try rw [EQ.out]); refine (rends_any s q _).mono ?_; rintro e w' ⟨rfl, rfl⟩)
                | (go_at_call 93; refine (rflow_any _ _).mono ?_; rintro e w' ⟨rfl, rfl⟩)
                | (go_at_call 32; refine (rrow_any s q _ hs).mono ?_; rintro e w' ⟨rfl, rfl⟩; rw [HN.out])
                | (go_at_call 33; refine (rfirst_any s q _ _ hs ht3).mono ?_; rintro e w' ⟨rfl, rfl⟩; rw [HFR.out])
              refine bodyPost_ret (v := .tuple #[.string (a), .string (s.extract p (p + Bk.sizeN s p)), .int .i64 q, .int .i64 0]) (by simp [results, Tryz.results115, go_sem]; try rfl) rfl ⟨by rw [HV.out]; rfl, rfl⟩
            · have HV : Hid (R = F f (Bk.firstN s q s.size) (a) (s.extract p (p + Bk.sizeN s p)) q) := Lib.hid (by rw [HE.out, if_neg hmq, HQ.out])
              have hmb : ((Bk.firstN s q s.size : Int) == (q : Int)) = false := by simp; omega
              clear hmq
              go_wp2_with first
                | (go_at_call 123; refine (rsize_any s p _ hs hlt H33.out).mono ?_; rintro e w' ⟨rfl, rfl⟩)
                | (go_at_call 61; (try rw [EQ.out]); refine (rends_any s q _).mono ?_; rintro e w' ⟨rfl, rfl⟩)
                | (go_at_call 93; refine (rflow_any _ _).mono ?_; rintro e w' ⟨rfl, rfl⟩)
                | (go_at_call 32; refine (rrow_any s q _ hs).mono ?_; rintro e w' ⟨rfl, rfl⟩; rw [HN.out])
                | (go_at_call 33; refine (rfirst_any s q _ _ hs ht3).mono ?_; rintro e w' ⟨rfl, rfl⟩; rw [HFR.out])
              go_round
              case rel => exact ⟨f, Bk.firstN s q s.size, q, a, s.extract p (p + Bk.sizeN s p), .inr (by omega), by omega, by omega, rfl, rfl, rfl, rfl, HV⟩
              case measure => simp [intOf]; omega
end Go.Proofs.YtlmjabnkjmfcmaaGreat
/- Read, Props and Alias at any place; same; awake: contracts. -/
namespace Go.Proofs.YtlmjabnkjmfcmaaGreat
open Go Go.RowKit Go.PlainAid
set_option linter.unusedVariables false
namespace Bk
/-- All that Read tells of any place. -/
def readI (s : ByteArray) (a : Int) (flow : Bool) : ByteArray × ByteArray × Int × Int :=
  if a < 0 then (ByteArray.empty, ByteArray.empty, a, 0)
  else ((readP s flow (s.size + 1) a.toNat ByteArray.empty ByteArray.empty a.toNat).1, (readP s flow (s.size + 1) a.toNat ByteArray.empty ByteArray.empty a.toNat).2.1, ((readP s flow (s.size + 1) a.toNat ByteArray.empty ByteArray.empty a.toNat).2.2.1 : Int), (readP s flow (s.size + 1) a.toNat ByteArray.empty ByteArray.empty a.toNat).2.2.2)
def aliasI (s : ByteArray) (a : Int) : ByteArray × Int × Int :=
  if 0 ≤ a ∧ a < s.size ∧ bt s a.toNat = 42 ∧ nameN s (a + 1) ≠ 0 then (s.extract (a.toNat + 1) (a.toNat + 1 + nameN s (a + 1)), a + 1 + nameN s (a + 1), 0) else (ByteArray.empty, a, 5)
end Bk
def back4i (R : ByteArray × ByteArray × Int × Int) : Ending := .returned (.tuple #[.string R.1, .string R.2.1, .int .i64 R.2.2.1, .int .i64 R.2.2.2])
def back3i (R : ByteArray × Int × Int) : Ending := .returned (.tuple #[.string R.1, .int .i64 R.2.1, .int .i64 R.2.2])
set_option maxRecDepth 20000 in
set_option maxHeartbeats 800000 in
theorem rread_neg (s : ByteArray) (p : Int) (flow : Bool) (w : World) (hp : p < 0) :
    Calls Tryz.prog 115 #[.string s, .int .i64 p, .bool flow] w fun e w' => e = back4i (ByteArray.empty, ByteArray.empty, p, 0) ∧ w = w' := by
  go_enter Tryz.func115, Tryz.ntmps115
  go_wp2_with fail
  go_loop [10, 11, 12, 13] (fun i10 i11 i12 i13 => i10 = .string ByteArray.empty ∧ i11 = .string ByteArray.empty ∧ i12 = .int .i64 p ∧ i13 = .int .i64 p) (fun _ _ _ i => 0)
  case atStart => exact ⟨rfl, rfl, rfl, rfl⟩
  case round =>
    obtain ⟨rfl, rfl, rfl, rfl⟩ := hrel
    go_wp2_with fail
    refine bodyPost_ret (v := .tuple #[.string ByteArray.empty, .string ByteArray.empty, .int .i64 p, .int .i64 0]) (by simp [results, Tryz.results115, go_sem]; try rfl) rfl ⟨rfl, rfl⟩
theorem rread_any (s : ByteArray) (a : Int) (flow : Bool) (w : World) (hs : s.size ≤ 4611686018427387903) (ha : a ≤ 9223372036854775807) :
    Calls Tryz.prog 115 #[.string s, .int .i64 a, .bool flow] w fun e w' => e = back4i (Bk.readI s a flow) ∧ w = w' := by
  by_cases h : a < 0
  · refine (rread_neg s a flow w h).mono fun e w' q => ⟨?_, q.2⟩
    rw [q.1]; unfold Bk.readI; rw [if_pos h]
  · obtain ⟨p, rfl⟩ := Int.eq_ofNat_of_zero_le (by omega : 0 ≤ a)
    refine (rread_nat s p flow w hs (by omega)).mono fun e w' q => ⟨?_, q.2⟩
    rw [q.1]; unfold Bk.readI; rw [if_neg h]; rfl
namespace Bk
theorem alias_way (s : ByteArray) (a : Int) :
    (a < 0 ∧ Hid (aliasI s a = (ByteArray.empty, a, 5))) ∨
    (∃ p : Nat, a = p ∧ s.size ≤ p ∧ Hid (aliasI s a = (ByteArray.empty, a, 5))) ∨
    (∃ p : Nat, a = p ∧ p < s.size ∧ (bt s p != 42) = true ∧ Hid (aliasI s a = (ByteArray.empty, a, 5))) ∨
    (∃ p : Nat, a = p ∧ p < s.size ∧ (bt s p != 42) = false ∧ Hid (nameN s ((p + 1 : Nat) : Int) = 0) ∧ Hid (aliasI s a = (ByteArray.empty, a, 5))) ∨
    (∃ p n : Nat, a = p ∧ p < s.size ∧ (bt s p != 42) = false ∧ ((n : Int) == 0) = false ∧ p + 1 + n ≤ s.size ∧ Hid (nameN s ((p + 1 : Nat) : Int) = n) ∧ Hid (aliasI s a = (s.extract (p + 1) (p + 1 + n), ((p + 1 + n : Nat) : Int), 0))) := by
  by_cases h : a < 0
  · exact .inl ⟨h, Lib.hid (by unfold aliasI; rw [if_neg (by omega)])⟩
  · obtain ⟨p, rfl⟩ := Int.eq_ofNat_of_zero_le (by omega : 0 ≤ a)
    by_cases h1 : p < s.size
    · by_cases h2 : bt s p = 42
      · by_cases h3 : nameN s ((p + 1 : Nat) : Int) = 0
        · exact .inr (.inr (.inr (.inl ⟨p, rfl, h1, by rw [h2]; rfl, Lib.hid h3, Lib.hid (by unfold aliasI; rw [if_neg]; rintro ⟨_, _, _, q⟩; exact q h3)⟩)))
        · have := nameN_le (s := s) (k := p + 1) (by omega)
          refine .inr (.inr (.inr (.inr ⟨p, nameN s ((p + 1 : Nat) : Int), rfl, h1, by rw [h2]; rfl, by rw [beq_eq_false_iff_ne]; omega, this, Lib.hid rfl, Lib.hid ?_⟩)))
          unfold aliasI
          rw [if_pos ⟨by omega, by omega, h2, h3⟩]
          rfl
      · exact .inr (.inr (.inl ⟨p, rfl, h1, by simpa using h2, Lib.hid (by unfold aliasI; rw [if_neg]; rintro ⟨_, _, q, _⟩; exact h2 q)⟩))
    · exact .inr (.inl ⟨p, rfl, by omega, Lib.hid (by unfold aliasI; rw [if_neg (by omega)])⟩)
end Bk
set_option maxHeartbeats 1600000 in
theorem ralias_any (s : ByteArray) (a : Int) (w : World) (hs : s.size ≤ 4611686018427387903) (ha : a ≤ 9223372036854775807) :
    Calls Tryz.prog 126 #[.string s, .int .i64 a] w fun e w' => e = back3i (Bk.aliasI s a) ∧ w = w' := by
  have hb := get_bt s
  have HW := Bk.alias_way s a
  obtain ⟨R, hR⟩ : ∃ R, R = Bk.aliasI s a := ⟨_, rfl⟩
  rw [← hR] at HW ⊢
  clear hR
  rcases HW with ⟨h, H⟩ | ⟨p, rfl, h, H⟩ | ⟨p, rfl, h, h2, H⟩ | ⟨p, rfl, h, h2, h3, H⟩ | ⟨p, n, rfl, h, h2, h4, h5, h3, H⟩
  · go_enter Tryz.func126, Tryz.ntmps126
    go_wp2_with fail
    go_ret3
    exact ⟨by rw [H.out]; rfl, rfl⟩
  · go_enter Tryz.func126, Tryz.ntmps126
    go_wp2_with fail
    go_ret3
    exact ⟨by rw [H.out]; rfl, rfl⟩
  · go_enter Tryz.func126, Tryz.ntmps126
    go_wp2_with fail
    go_ret3
    exact ⟨by rw [H.out]; rfl, rfl⟩
  · have E1 : Hid ((p : Int) + 1 = ((p + 1 : Nat) : Int)) := Lib.hid (by omega)
    go_enter Tryz.func126, Tryz.ntmps126
    go_wp2_with (go_at_call 122; rw [E1.out]; refine (rname_any s _ _ (by omega) (by omega)).mono ?_; rintro e w' ⟨rfl, rfl⟩; rw [h3.out])
    go_ret3
    exact ⟨by rw [H.out]; rfl, rfl⟩
  · have E1 : Hid ((p : Int) + 1 = ((p + 1 : Nat) : Int)) := Lib.hid (by omega)
    have E2 : Hid ((p : Int) + 1 + (n : Int) = ((p + 1 + n : Nat) : Int)) := Lib.hid (by omega)
    go_enter Tryz.func126, Tryz.ntmps126
    go_wp2_with (go_at_call 122; (try rw [E1.out]); refine (rname_any s _ _ (by omega) (by omega)).mono ?_; rintro e w' ⟨rfl, rfl⟩; rw [h3.out])
    go_ret3
    exact ⟨by rw [H.out]; show Ending.returned (.tuple #[_, .int .i64 ((p : Int) + 1 + (n : Int)), _]) = _; rw [E2.out]; rfl, rfl⟩
end Go.Proofs.YtlmjabnkjmfcmaaGreat
/- Plain scalars: where one may begin, where a part ends: plain functions; contracts of there, stops, Begins, ends, white of package plai, and of the reference's Begins. -/
namespace Go.Proofs.YtlmjabnkjmfcmaaGreat
open Go Go.RowKit Go.PlainAid
set_option linter.unusedVariables false
namespace Bk
/-- Nothing of a plain scalar may stand behind a sign at a place. -/
def stopsB (s : ByteArray) (k : Nat) (fl : Bool) : Bool := endsB s ((k : Int) + 1) || (fl && flowB (bt s (k + 1)))
def signB (c : Int) : Bool := c == 45 || c == 63 || c == 58
/-- May a plain scalar begin at a place? -/
def beginsB (s : ByteArray) (k : Nat) (fl : Bool) : Bool := !endsB s (k : Int) && (if signB (bt s k) then !stopsB s k fl else !indB (bt s k))
/-- Does a part end at a place? -/
def endP (s : ByteArray) (fl : Bool) (i : Nat) : Bool := if bt s i = 35 then decide (0 < i) && whiteB (bt s (i - 1)) else if bt s i = 58 then stopsB s i fl else fl && flowB (bt s i)
/-- Where a part ends that begins at a place, white at its end with it. -/
def partE (s : ByteArray) (k : Nat) (fl : Bool) : Nat := k + runP (fun i => !endP s fl i) (toN s k - k) k
/-- A place without the white ahead of it, back to another. -/
def trimN (s : ByteArray) (k e : Nat) : Nat := backP (fun i => decide (k ≤ i) && whiteB (bt s i)) e
def partN (s : ByteArray) (k : Nat) (fl : Bool) : Nat := if s.size ≤ k then k else trimN s k (partE s k fl)
theorem partE_ge (s : ByteArray) (k : Nat) (fl : Bool) : k ≤ partE s k fl := Nat.le_add_right _ _
theorem partE_le (s : ByteArray) (k : Nat) (fl : Bool) : partE s k fl ≤ toN s k := by
  unfold partE; have := runP_le (fun i => !endP s fl i) (toN s k - k) k; have := toN_ge s k; omega
theorem partE_eq {s : ByteArray} {k n : Nat} {fl : Bool} (h : k ≤ n) (h0 : n ≤ toN s k) (h1 : ∀ j, k ≤ j → j < n → endP s fl j = false) (h2 : n < toN s k → endP s fl n = true) : partE s k fl = n := by
  unfold partE
  have : runP (fun i => !endP s fl i) (toN s k - k) k = n - k := by
    refine runP_eq (by omega) (fun j hj => ?_) (fun hj => ?_)
    · rw [h1 (k + j) (by omega) (by omega)]; rfl
    · rw [show k + (n - k) = n from by omega, h2 (by omega)]; rfl
  omega
theorem trimN_le (s : ByteArray) (k e : Nat) : trimN s k e ≤ e := backP_le _ _
theorem trimN_eq {s : ByteArray} {k e n : Nat} (h : n ≤ e) (hk : k ≤ n) (h1 : ∀ j, n ≤ j → j < e → whiteB (bt s j) = true) (h2 : k < n → whiteB (bt s (n - 1)) = false) : trimN s k e = n := by
  refine backP_eq h (fun j a b => ?_) (fun a => ?_)
  · rw [h1 j a b, decide_eq_true (by omega)]; rfl
  · by_cases e : k < n
    · rw [h2 e, Bool.and_false]
    · rw [decide_eq_false (by omega), Bool.false_and]
theorem trimN_ge {s : ByteArray} {k e : Nat} (h : k ≤ e) : k ≤ trimN s k e := by
  have h3 := backP_end (fun i => decide (k ≤ i) && whiteB (bt s i)) e
  rcases Nat.lt_or_ge (trimN s k e) k with h1 | h1
  · exfalso
    have h2 := backP_all (fun i => decide (k ≤ i) && whiteB (bt s i)) e (trimN s k e) (Nat.le_refl _) (by omega)
    rw [decide_eq_false (by omega), Bool.false_and] at h2
    exact absurd h2 (by decide)
  · exact h1
theorem partN_ge (s : ByteArray) (k : Nat) (fl : Bool) : k ≤ partN s k fl := by
  unfold partN
  split
  · exact Nat.le_refl _
  · exact trimN_ge (partE_ge s k fl)
theorem partN_le (s : ByteArray) (k : Nat) (fl : Bool) : partN s k fl ≤ toN s k := by
  unfold partN
  split
  · exact toN_ge s k
  · exact Nat.le_trans (trimN_le _ _ _) (partE_le _ _ _)
end Bk
namespace Bk
theorem sign_ind {c : Int} (h : signB c = true) : indB c = true := by
  simp [signB] at h
  rcases h with (rfl | rfl) | rfl <;> decide
theorem sign_no {c : Int} (h : signB c = false) : (c == 45) = false ∧ (c == 63) = false ∧ (c == 58) = false ∧ (c != 45) = true ∧ (c != 63) = true ∧ (c != 58) = true := by
  simp [signB, and_assoc] at h
  simp [h]
end Bk
set_option maxHeartbeats 1600000 in
theorem rbegins_any (s : ByteArray) (a : Int) (fl : Bool) (w : World) (hs : s.size ≤ 1000000) (ha : 0 ≤ a) :
    Calls Tryz.prog 129 #[.string s, .int .i64 a, .bool fl] w fun e w' => e = .returned (.bool (Bk.beginsB s a.toNat fl)) ∧ w = w' := by
  obtain ⟨k, rfl⟩ := Int.eq_ofNat_of_zero_le ha
  rw [Int.toNat_natCast]
  have hb := get_bt s
  cases hE : Bk.endsB s (k : Int) with
  | true =>
    go_enter Tryz.func129, Tryz.ntmps129
    go_wp2_with (go_at_call 61; refine (rends_any _ _ _).mono ?_; rintro e w' ⟨rfl, rfl⟩)
    go_ret
    exact ⟨ret_bool (by simp [Bk.beginsB, hE]), rfl⟩
  | false =>
    have hk : k < s.size := by
      apply Nat.lt_of_not_le
      intro h
      rw [Bk.ends_out (.inr (by omega))] at hE
      cases hE
    cases hI : Bk.indB (bt s k) with
    | false =>
      have hS : Bk.signB (bt s k) = false := by
        cases h : Bk.signB (bt s k) with
        | false => rfl
        | true => rw [Bk.sign_ind h] at hI; cases hI
      have HB : Hid (Bk.beginsB s k fl = true) := Lib.hid (by simp [Bk.beginsB, hE, hS, hI])
      go_enter Tryz.func129, Tryz.ntmps129
      go_wp2_with first
        | (go_at_call 61; refine (rends_any _ _ _).mono ?_; rintro e w' ⟨rfl, rfl⟩)
        | (go_at_call 142; refine (rind_any _ _).mono ?_; rintro e w' ⟨rfl, rfl⟩)
      go_ret
      exact ⟨ret_bool (by rw [HB.out]), rfl⟩
    | true =>
      cases hS : Bk.signB (bt s k) with
      | false =>
        have HB : Hid (Bk.beginsB s k fl = false) := Lib.hid (by simp [Bk.beginsB, hE, hS, hI])
        obtain ⟨_, _, _, h1, h2, h3⟩ := Bk.sign_no hS
        clear hS
        go_enter Tryz.func129, Tryz.ntmps129
        go_wp2_with first
          | (go_at_call 61; refine (rends_any _ _ _).mono ?_; rintro e w' ⟨rfl, rfl⟩)
          | (go_at_call 142; refine (rind_any _ _).mono ?_; rintro e w' ⟨rfl, rfl⟩)
        go_ret
        exact ⟨ret_bool (by rw [HB.out]), rfl⟩
      | true =>
        have HB : Hid (Bk.beginsB s k fl = !Bk.stopsB s k fl) := Lib.hid (by simp [Bk.beginsB, hE, hS])
        have h3 : bt s k = 45 ∨ bt s k = 63 ∨ bt s k = 58 := by simpa [Bk.signB, or_assoc] using hS
        clear hS
        cases hF : Bk.endsB s ((k : Int) + 1) with
        | true =>
          have HT : Hid (Bk.beginsB s k fl = false) := Lib.hid (by rw [HB.out]; simp [Bk.stopsB, hF])
          rcases h3 with h3 | h3 | h3
          all_goals
            go_enter Tryz.func129, Tryz.ntmps129
            go_wp2_with first
              | (go_at_call 61; refine (rends_any _ _ _).mono ?_; rintro e w' ⟨rfl, rfl⟩)
              | (go_at_call 142; refine (rind_any _ _).mono ?_; rintro e w' ⟨rfl, rfl⟩)
            go_ret
            exact ⟨ret_bool (by rw [HT.out]), rfl⟩
        | false =>
          have hlt : k + 1 < s.size := by
            apply Nat.lt_of_not_le
            intro h
            rw [Bk.ends_out (.inr (by omega))] at hF
            cases hF
          have HT : Hid (Bk.beginsB s k fl = !(fl && Bk.flowB (bt s (k + 1)))) := Lib.hid (by rw [HB.out]; simp [Bk.stopsB, hF])
          cases fl
          all_goals
            rcases h3 with h3 | h3 | h3
            all_goals
              go_enter Tryz.func129, Tryz.ntmps129
              go_wp2_with first
                | (go_at_call 61; refine (rends_any _ _ _).mono ?_; rintro e w' ⟨rfl, rfl⟩)
                | (go_at_call 142; refine (rind_any _ _).mono ?_; rintro e w' ⟨rfl, rfl⟩)
                | (go_at_call 93; refine (rflow_any _ _).mono ?_; rintro e w' ⟨rfl, rfl⟩)
              go_ret
              exact ⟨ret_bool (by rw [HT.out]; rfl), rfl⟩
end Go.Proofs.YtlmjabnkjmfcmaaGreat
/- Plain lemmas on texts put together, and the contract of Long. -/
namespace Go.Proofs.YtlmjabnkjmfcmaaGreat
open Go Go.RowKit Go.PlainAid
namespace Bk
theorem size_app (a b : ByteArray) : (a ++ b).size = a.size + b.size := by simp
theorem bt_left {a b : ByteArray} {j : Nat} (h : j < a.size) : bt (a ++ b) j = bt a j := by
  rw [← get_bt a j h, ← get_bt (a ++ b) j (by rw [size_app]; omega)]
  simp [ByteArray.getElem_append_left h]
theorem bt_right {a b : ByteArray} {j : Nat} (h : a.size ≤ j) (h' : j < a.size + b.size) : bt (a ++ b) j = bt b (j - a.size) := by
  rw [← get_bt b (j - a.size) (by omega), ← get_bt (a ++ b) j (by rw [size_app]; omega)]
  simp [ByteArray.getElem_append_right h]
/-- What of the first k bytes of a text ends no name. -/
def filtS (s : ByteArray) : Nat → ByteArray
  | 0 => ByteArray.empty
  | k + 1 => if stopB (bt s k) = true then filtS s k else filtS s k ++ s.extract k (k + 1)
theorem filtS_yes {s : ByteArray} {k : Nat} (h : stopB (bt s k) = false) : filtS s (k + 1) = filtS s k ++ s.extract k (k + 1) := by
  rw [filtS, if_neg (by rw [h]; decide)]
theorem filtS_no {s : ByteArray} {k : Nat} (h : stopB (bt s k) = true) : filtS s (k + 1) = filtS s k := by
  rw [filtS, if_pos h]
theorem filtS_le (s : ByteArray) : ∀ k, k ≤ s.size → (filtS s k).size ≤ k
  | 0, _ => Nat.le_refl _
  | k + 1, h => by
    have ih := filtS_le s k (by omega)
    cases hs : stopB (bt s k) with
    | true => rw [filtS_no hs]; omega
    | false => rw [filtS_yes hs, size_app, size_ext s k (k + 1) h]; omega
theorem filtS_bt (s : ByteArray) : ∀ k, k ≤ s.size → ∀ j, j < (filtS s k).size → stopB (bt (filtS s k) j) = false
  | 0, _, j, h => absurd h (by show ¬ j < 0; omega)
  | k + 1, h, j, hj => by
    have ih := filtS_bt s k (by omega)
    cases hs : stopB (bt s k) with
    | true => rw [filtS_no hs] at hj ⊢; exact ih j hj
    | false =>
      have hz := size_ext s k (k + 1) h
      rw [filtS_yes hs] at hj ⊢
      rw [size_app, hz] at hj
      by_cases hlt : j < (filtS s k).size
      · rw [bt_left hlt]; exact ih j hlt
      · rw [bt_right (by omega) (by omega), bt_ext h (by omega), show k + (j - (filtS s k).size) = k from by omega]; exact hs
theorem name_ahead {t u : ByteArray} (h : ∀ j, j < t.size → stopB (bt t j) = false) (hu : 0 < u.size → stopB (bt u 0) = true) : nameN (t ++ u) 0 = t.size := by
  have := @nameN_eq (t ++ u) 0 t.size (fun j hj => ?_) (fun hj => ?_)
  · exact this
  · rw [Nat.zero_add, size_app, bt_left hj]; exact ⟨by omega, h j hj⟩
  · rw [Nat.zero_add, size_app] at hj
    rw [Nat.zero_add, bt_right (Nat.le_refl _) (by omega), Nat.sub_self]; exact hu (by omega)
theorem name_whole {t : ByteArray} (h : ∀ j, j < t.size → stopB (bt t j) = false) : nameN t 0 = t.size := by
  have := @nameN_eq t 0 t.size (fun j hj => by rw [Nat.zero_add]; exact ⟨hj, h j hj⟩) (fun hj => by omega)
  exact this
theorem name_behind {a t : ByteArray} (h : ∀ j, j < t.size → stopB (bt t j) = false) : nameN (a ++ t) (a.size : Int) = t.size := by
  refine nameN_eq (fun j hj => ?_) (fun hj => ?_)
  · rw [size_app, bt_right (by omega) (by omega), show a.size + j - a.size = j from by omega]; exact ⟨by omega, h j hj⟩
  · rw [size_app] at hj; omega
/-- Have texts more than so many bytes together, or are they more than that? -/
def longB : Int → List Nat → Bool
  | _, [] => false
  | n, x :: xs => if n ≤ (x : Int) then true else longB (n - x - 1) xs
theorem longB_cons (n : Int) (x : Nat) (xs : List Nat) : longB n (x :: xs) = if n ≤ (x : Int) then true else longB (n - x - 1) xs := rfl
theorem tab_cell (w : World) (T : TypeId) (n : Nat) (hn : n = w.heap.size) (xs : List ByteArray) (j : Nat) (h : j < xs.length) :
    (w.alloc (.cells (xs.map Value.string).toArray T)).cell? ⟨n, j, none⟩ = some (.string (xs.getD j ByteArray.empty)) := by
  subst hn; rw [World.cell?_alloc_new]
  simp [h]
theorem longB_two {n : Int} {s u : ByteArray} (h : longB n ([s, u].map (·.size)) = false) : (s.size : Int) < n ∧ (u.size : Int) < n := by
  simp only [List.map_cons, List.map_nil, longB] at h
  split at h
  · exact absurd h (by decide)
  · split at h
    · exact absurd h (by decide)
    · omega
end Bk
end Go.Proofs.YtlmjabnkjmfcmaaGreat
/- Where a part of a plain scalar ends: contracts of ends, white, Part of package plai, and of the reference's Part. -/
namespace Go.Proofs.YtlmjabnkjmfcmaaGreat
open Go Go.RowKit Go.PlainAid
set_option linter.unusedVariables false
namespace Bk
theorem endP_high {s : ByteArray} {fl : Bool} {i : Nat} (h : 128 ≤ bt s i) : endP s fl i = false := by
  unfold endP
  rw [if_neg (by omega), if_neg (by omega)]
  have : flowB (bt s i) = false := by simp [flowB]; omega
  rw [this, Bool.and_false]
theorem decode_cont (s : ByteArray) (pos j : Nat) (h0 : 1 ≤ j) (hj : j < (Utf8.decode s pos).2) : pos + j < s.size ∧ 128 ≤ (s.get! (pos + j)).toNat := by
  have c : ∀ k, (decide (pos + k < s.size) && ((s.get! (pos + k)).toNat / 64 == 2)) = true → pos + k < s.size ∧ 128 ≤ (s.get! (pos + k)).toNat := by
    intro k hk
    simp at hk
    omega
  simp only [Utf8.decode] at hj
  split at hj
  · simp at hj; omega
  · split at hj
    · rename_i h1
      rw [Bool.and_eq_true] at h1
      split at hj <;> simp at hj
      · obtain rfl : j = 1 := by omega
        exact c 1 h1.2
      · omega
    · split at hj
      · rename_i h1
        rw [Bool.and_eq_true, Bool.and_eq_true] at h1
        split at hj <;> simp at hj
        · rcases (by omega : j = 1 ∨ j = 2) with rfl | rfl
          · exact c 1 h1.1.2
          · exact c 2 h1.2
        · omega
      · split at hj
        · rename_i h1
          rw [Bool.and_eq_true, Bool.and_eq_true, Bool.and_eq_true] at h1
          split at hj <;> simp at hj
          · rcases (by omega : j = 1 ∨ j = 2 ∨ j = 3) with rfl | rfl | rfl
            · exact c 1 h1.1.1.2
            · exact c 2 h1.1.2
            · exact c 3 h1.2
          · omega
        · simp at hj; omega
theorem decode_step {s : ByteArray} {pos : Nat} (h : pos < s.size) : 1 ≤ (Utf8.decode s pos).2 ∧ pos + (Utf8.decode s pos).2 ≤ s.size ∧ ∀ j, pos < j → j < pos + (Utf8.decode s pos).2 → 128 ≤ bt s j := by
  have h1 : 1 ≤ (Utf8.decode s pos).2 := by
    by_cases ha : (s[pos]'h).toNat < 128
    · rw [decode_ascii s pos h ha]; exact Nat.le_refl _
    · exact (decode_high s pos h (by omega)).2
  have h2 : pos + (Utf8.decode s pos).2 ≤ s.size := by
    by_cases e : (Utf8.decode s pos).2 = 1
    · omega
    · have := (decode_cont s pos ((Utf8.decode s pos).2 - 1) (by omega) (by omega)).1; omega
  refine ⟨h1, h2, fun j hj hj' => ?_⟩
  have := decode_cont s pos (j - pos) (by omega) (by omega)
  rw [show pos + (j - pos) = j from by omega] at this
  rw [← get_bt s j this.1]
  have e : s.get! j = s[j]'this.1 := get_at s j this.1
  have h3 := this.2
  rw [e] at h3
  omega
end Bk
end Go.Proofs.YtlmjabnkjmfcmaaGreat
/- Part of package plai, and the reference's Part: contracts. -/
namespace Go.Proofs.YtlmjabnkjmfcmaaGreat
open Go Go.RowKit Go.PlainAid
set_option linter.unusedVariables false
namespace Bk
theorem endP_yes {s : ByteArray} {fl : Bool} (p : Nat) (h : endP s fl p = true) :
    ((bt s p == 35) = true ∧ (bt s p == 58) = false ∧ flowB (bt s p) = false ∧ 0 < p ∧ whiteB (bt s (p - 1)) = true) ∨
    ((bt s p == 35) = false ∧ (bt s p == 58) = false ∧ flowB (bt s p) = true ∧ fl = true) ∨
    ((bt s p == 35) = false ∧ (bt s p == 58) = true ∧ flowB (bt s p) = false ∧ endsB s ((p : Int) + 1) = true) ∨
    ((bt s p == 35) = false ∧ (bt s p == 58) = true ∧ flowB (bt s p) = false ∧ endsB s ((p : Int) + 1) = false ∧ fl = true ∧ flowB (bt s (p + 1)) = true) := by
  unfold endP at h
  by_cases h1 : bt s p = 35
  · rw [if_pos h1] at h
    simp only [Bool.and_eq_true, decide_eq_true_eq] at h
    exact .inl ⟨by simp [h1], by simp [h1], by rw [h1]; decide, h.1, h.2⟩
  · rw [if_neg h1] at h
    by_cases h2 : bt s p = 58
    · rw [if_pos h2] at h
      have hf : flowB (bt s p) = false := by rw [h2]; decide
      unfold stopsB at h
      cases he : endsB s ((p : Int) + 1) with
      | true => exact .inr (.inr (.inl ⟨by simp [h1], by simp [h2], hf, rfl⟩))
      | false =>
        rw [he, Bool.false_or, Bool.and_eq_true] at h
        exact .inr (.inr (.inr ⟨by simp [h1], by simp [h2], hf, rfl, h.1, h.2⟩))
    · rw [if_neg h2, Bool.and_eq_true] at h
      exact .inr (.inl ⟨by simp [h1], by simp [h2], h.2, h.1⟩)
theorem endP_no {s : ByteArray} {fl : Bool} (p : Nat) (h : endP s fl p = false) :
    ((bt s p == 35) = true ∧ (bt s p == 58) = false ∧ flowB (bt s p) = false ∧ ¬ 0 < p) ∨
    ((bt s p == 35) = true ∧ (bt s p == 58) = false ∧ flowB (bt s p) = false ∧ 0 < p ∧ whiteB (bt s (p - 1)) = false) ∨
    ((bt s p == 35) = false ∧ (bt s p == 58) = true ∧ flowB (bt s p) = false ∧ endsB s ((p : Int) + 1) = false ∧ fl = false) ∨
    ((bt s p == 35) = false ∧ (bt s p == 58) = true ∧ flowB (bt s p) = false ∧ endsB s ((p : Int) + 1) = false ∧ fl = true ∧ flowB (bt s (p + 1)) = false) ∨
    ((bt s p == 35) = false ∧ (bt s p == 58) = false ∧ fl = false) ∨
    ((bt s p == 35) = false ∧ (bt s p == 58) = false ∧ flowB (bt s p) = false ∧ fl = true) := by
  unfold endP at h
  by_cases h1 : bt s p = 35
  · rw [if_pos h1] at h
    have hf : flowB (bt s p) = false := by rw [h1]; decide
    by_cases h0 : 0 < p
    · rw [decide_eq_true h0, Bool.true_and] at h
      exact .inr (.inl ⟨by simp [h1], by simp [h1], hf, h0, h⟩)
    · exact .inl ⟨by simp [h1], by simp [h1], hf, h0⟩
  · rw [if_neg h1] at h
    by_cases h2 : bt s p = 58
    · rw [if_pos h2] at h
      have hf : flowB (bt s p) = false := by rw [h2]; decide
      unfold stopsB at h
      rw [Bool.or_eq_false_iff] at h
      cases fl with
      | false => exact .inr (.inr (.inl ⟨by simp [h1], by simp [h2], hf, h.1, rfl⟩))
      | true => exact .inr (.inr (.inr (.inl ⟨by simp [h1], by simp [h2], hf, h.1, rfl, by simpa using h.2⟩)))
    · rw [if_neg h2] at h
      cases fl with
      | false => exact .inr (.inr (.inr (.inr (.inl ⟨by simp [h1], by simp [h2], rfl⟩))))
      | true => exact .inr (.inr (.inr (.inr (.inr ⟨by simp [h1], by simp [h2], by simpa using h, rfl⟩))))
end Bk
set_option maxHeartbeats 6400000 in
theorem rpart_of (s : ByteArray) (k : Nat) (fl : Bool) (w : World) (hs : s.size ≤ 1000000) (hk : k < s.size) :
    Calls Tryz.prog 130 #[.string s, .int .i64 k, .bool fl] w fun e w' => e = .returned (.int .i64 (Bk.partN s k fl : Nat)) ∧ w = w' := by
  have hb := get_bt s
  have ht := Bk.toN_le (s := s) (k := k) (by omega)
  have hg := Bk.toN_ge s k
  have HA := Lib.hid (fun j (h : k ≤ j) (h1 : j < Bk.toN s k) => Bk.toN_all (s := s) h h1)
  have HN := Lib.hid (@Bk.toN_end s k)
  have HE := Lib.hid (fun n (h : k ≤ n) (h0 : n ≤ Bk.toN s k) => Bk.partE_eq (s := s) (fl := fl) h h0)
  have HP : Hid (Bk.partN s k fl = Bk.trimN s k (Bk.partE s k fl)) := Lib.hid (by rw [Bk.partN, if_neg (by omega)])
  obtain ⟨t, hT⟩ : ∃ t, t = Bk.toN s k := ⟨_, rfl⟩
  rw [← hT] at ht hg HA HN HE
  clear hT
  have HY := Lib.hid (Bk.endP_yes (s := s) (fl := fl))
  have HO := Lib.hid (Bk.endP_no (s := s) (fl := fl))
  obtain ⟨g, hgq⟩ : ∃ g, g = Bk.endP s fl := ⟨_, rfl⟩
  rw [← hgq] at HE HY HO
  clear hgq
  have hd0 : decide ((k : Int) < 0) = false := by simp
  have hd1 : decide (s.size ≤ k) = false := by simp; omega
  cases fl
  all_goals
    go_enter Tryz.func130, Tryz.ntmps130
    go_wp2_with fail
    go_loop [7] (fun i => ∃ p : Nat, k ≤ p ∧ p ≤ t ∧ i = .int .i64 p ∧ Hid (∀ j, k ≤ j → j < p → g j = false)) (fun i => t - (intOf i).toNat)
    case atStart => exact ⟨k, by omega, by omega, rfl, Lib.hid fun j _ _ => by omega⟩
    case round =>
      obtain ⟨p, hp, hp', rfl, H⟩ := hrel
      have hps : p ≤ s.size := by omega
      have e1 : 0 < p → ((p : Int) - 1).toNat = p - 1 := by omega
      have hnx : Bk.endsB s ((p : Int) + 1) = false → p + 1 < s.size := fun h => by
        apply Nat.lt_of_not_le
        intro h2
        rw [Bk.ends_out (.inr (by omega))] at h
        cases h
      by_cases hpt : p < t
      · have h10 : (bt s p != 10) = true := by simpa using HA.out p hp hpt
        have hpz : p < s.size := by omega
        cases hE : g p with
        | false =>
          have HE3 : Hid (∀ j, k ≤ j → j < p + 1 → g j = false) := Lib.hid fun j hj hj' => by
            by_cases e : j = p
            · subst e; exact hE
            · exact H.out j hj (by omega)
          have hw := HO.out p hE
          clear hE
          rcases hw with ⟨h1, h2, h3, h4⟩ | ⟨h1, h2, h3, h4, h5⟩ | ⟨h1, h2, h3, h4, hf⟩ | ⟨h1, h2, h3, h4, hf, h6⟩ | ⟨h1, h2, hf⟩ | ⟨h1, h2, h3, hf⟩
          all_goals (try cases hf)
          all_goals
            (try replace e1 := e1 (by assumption))
            (try replace hnx := hnx (by assumption))
            go_wp2_with first
              | (go_at_call 63; refine (rwhite_any _ _).mono ?_; rintro e w' ⟨rfl, rfl⟩)
              | (go_at_call 93; refine (rflow_any _ _).mono ?_; rintro e w' ⟨rfl, rfl⟩)
              | (go_at_call 61; refine (rends_any _ _ _).mono ?_; rintro e w' ⟨rfl, rfl⟩)
            go_round
            case rel => exact ⟨p + 1, by omega, by omega, by go_num, HE3⟩
            case measure => simp [intOf]; omega
        | true =>
          have HPE := Lib.hid (HP.out.trans (congrArg (Bk.trimN s k) (HE.out p hp hp' H.out (fun _ => hE))))
          have hw := HY.out p hE
          clear hE
          rcases hw with ⟨h1, h2, h3, h4, h5⟩ | ⟨h1, h2, h3, hf⟩ | ⟨h1, h2, h3, h4⟩ | ⟨h1, h2, h3, h4, hf, h6⟩
          all_goals (try cases hf)
          all_goals
            (try replace e1 := e1 (by assumption))
            (try replace hnx := hnx (by assumption))
            go_wp2_with first
              | (go_at_call 63; refine (rwhite_any _ _).mono ?_; rintro e w' ⟨rfl, rfl⟩)
              | (go_at_call 93; refine (rflow_any _ _).mono ?_; rintro e w' ⟨rfl, rfl⟩)
              | (go_at_call 61; refine (rends_any _ _ _).mono ?_; rintro e w' ⟨rfl, rfl⟩)
            (try clear e1)
            (try clear hnx)
            go_loop [7] (fun i => ∃ q : Nat, k ≤ q ∧ q ≤ p ∧ i = .int .i64 q ∧ Hid (∀ j, q ≤ j → j < p → Bk.whiteB (bt s j) = true)) (fun i => (intOf i).toNat)
            case atStart => exact ⟨p, by omega, by omega, rfl, Lib.hid fun j _ _ => by omega⟩
            case round =>
              obtain ⟨q, hq, hq', rfl, HW⟩ := hrel
              by_cases hkq : k < q
              · have e2 : ((q : Int) - 1).toNat = q - 1 := by omega
                cases hw : Bk.whiteB (bt s (q - 1)) with
                | true =>
                  have HC : Hid (Bk.whiteB (bt s (q - 1)) = true) := Lib.hid hw
                  go_wp2_with (go_at_call 63; refine (rwhite_any _ _).mono ?_; rintro e w' ⟨rfl, rfl⟩)
                  go_round
                  case rel =>
                    refine ⟨q - 1, by omega, by omega, by rw [Int.ofNat_sub (by omega)]; rfl, Lib.hid fun j hj hj' => ?_⟩
                    by_cases e : j = q - 1
                    · subst e; exact HC.out
                    · exact HW.out j (by omega) hj'
                  case measure => simp [intOf]; omega
                | false =>
                  have HF := Lib.hid (HPE.out.trans (Bk.trimN_eq hq' hq HW.out (fun _ => hw)))
                  go_wp2_with (go_at_call 63; refine (rwhite_any _ _).mono ?_; rintro e w' ⟨rfl, rfl⟩)
                  go_ret
                  exact ⟨ret_int (by rw [HF.out]), rfl⟩
              · have HF := Lib.hid (HPE.out.trans (Bk.trimN_eq hq' hq HW.out (fun h => absurd h hkq)))
                go_wp2
                go_ret
                exact ⟨ret_int (by rw [HF.out]), rfl⟩
      · have hpe : p = t := by omega
        have HPE := Lib.hid (HP.out.trans (congrArg (Bk.trimN s k) (HE.out p hp hp' H.out (fun h => absurd h hpt))))
        have hw : (¬ p < s.size) ∨ (p < s.size ∧ (bt s p != 10) = false) := by
          by_cases h1 : p < s.size
          · refine .inr ⟨h1, ?_⟩
            rw [hpe]; simpa using HN.out (by omega)
          · exact .inl h1
        clear hpe
        rcases hw with h | ⟨h, h0⟩
        all_goals
            go_wp2_with fail
            (try clear e1)
            (try clear hnx)
            go_loop [7] (fun i => ∃ q : Nat, k ≤ q ∧ q ≤ p ∧ i = .int .i64 q ∧ Hid (∀ j, q ≤ j → j < p → Bk.whiteB (bt s j) = true)) (fun i => (intOf i).toNat)
            case atStart => exact ⟨p, by omega, by omega, rfl, Lib.hid fun j _ _ => by omega⟩
            case round =>
              obtain ⟨q, hq, hq', rfl, HW⟩ := hrel
              by_cases hkq : k < q
              · have e2 : ((q : Int) - 1).toNat = q - 1 := by omega
                cases hw : Bk.whiteB (bt s (q - 1)) with
                | true =>
                  have HC : Hid (Bk.whiteB (bt s (q - 1)) = true) := Lib.hid hw
                  go_wp2_with (go_at_call 63; refine (rwhite_any _ _).mono ?_; rintro e w' ⟨rfl, rfl⟩)
                  go_round
                  case rel =>
                    refine ⟨q - 1, by omega, by omega, by rw [Int.ofNat_sub (by omega)]; rfl, Lib.hid fun j hj hj' => ?_⟩
                    by_cases e : j = q - 1
                    · subst e; exact HC.out
                    · exact HW.out j (by omega) hj'
                  case measure => simp [intOf]; omega
                | false =>
                  have HF := Lib.hid (HPE.out.trans (Bk.trimN_eq hq' hq HW.out (fun _ => hw)))
                  go_wp2_with (go_at_call 63; refine (rwhite_any _ _).mono ?_; rintro e w' ⟨rfl, rfl⟩)
                  go_ret
                  exact ⟨ret_int (by rw [HF.out]), rfl⟩
              · have HF := Lib.hid (HPE.out.trans (Bk.trimN_eq hq' hq HW.out (fun h => absurd h hkq)))
                go_wp2
                go_ret
                exact ⟨ret_int (by rw [HF.out]), rfl⟩
theorem rpart_any (s : ByteArray) (a : Int) (fl : Bool) (w : World) (hs : s.size ≤ 1000000) (ha : 0 ≤ a) :
    Calls Tryz.prog 130 #[.string s, .int .i64 a, .bool fl] w fun e w' => e = .returned (.int .i64 (Bk.partN s a.toNat fl : Nat)) ∧ w = w' := by
  obtain ⟨k, rfl⟩ := Int.eq_ofNat_of_zero_le ha
  rw [Int.toNat_natCast]
  by_cases hk : k < s.size
  · exact rpart_of s k fl w hs hk
  · have HP : Hid (Bk.partN s k fl = k) := Lib.hid (by rw [Bk.partN, if_pos (by omega)])
    go_enter Tryz.func130, Tryz.ntmps130
    go_wp2
    go_ret
    exact ⟨ret_int (by rw [HP.out]), rfl⟩
end Go.Proofs.YtlmjabnkjmfcmaaGreat
/- Part of package plai: contract. -/
namespace Go.Proofs.YtlmjabnkjmfcmaaGreat
open Go Go.RowKit Go.PlainAid
set_option linter.unusedVariables false
end Go.Proofs.YtlmjabnkjmfcmaaGreat
/- Blanks, Feeds and WordOf: contracts. -/
namespace Go.Proofs.YtlmjabnkjmfcmaaGreat
open Go Go.RowKit Go.PlainAid
namespace Bk
/-- So many of one byte. -/
def manyS (c : UInt8) : Nat → ByteArray
  | 0 => ByteArray.empty
  | n + 1 => manyS c n ++ ⟨#[c]⟩
theorem manyS_size (c : UInt8) : ∀ n, (manyS c n).size = n
  | 0 => rfl
  | n + 1 => by rw [manyS, size_app, manyS_size c n]; rfl
theorem manyS_bt (c : UInt8) : ∀ n j, j < n → bt (manyS c n) j = (c.toNat : Int)
  | 0, j, h => by omega
  | n + 1, j, h => by
    rw [manyS]
    by_cases e : j < n
    · rw [bt_left (by rw [manyS_size]; exact e)]; exact manyS_bt c n j e
    · have : j = n := by omega
      subst this
      rw [bt_right (by rw [manyS_size]; omega) (by rw [manyS_size]; show j < j + 1; omega), manyS_size, Nat.sub_self]; rfl
end Bk
set_option maxHeartbeats 400000 in
theorem blanks_any (n : Int) (w : World) (hn : n ≤ 1000000000) :
    Calls Tryz.prog 79 #[.int .i64 n] w fun e w' => e = .returned (.string (Bk.manyS 32 n.toNat)) ∧ w = w' := by
  have hone : ({ data := #[32] } : ByteArray).size ≤ 1 := by decide
  go_enter Tryz.func79, Tryz.ntmps79
  go_wp2
  go_loop [3, 4] (fun s i => ∃ k : Nat, (k = 0 ∨ (k : Int) ≤ n) ∧ i = .int .i64 k ∧ s = .string (Bk.manyS 32 k)) (fun _ i => n.toNat - (intOf i).toNat)
  case atStart => exact ⟨0, .inl rfl, rfl, rfl⟩
  case round =>
    obtain ⟨k, hk, rfl, rfl⟩ := hrel
    have hz : (Bk.manyS 32 k).size ≤ k := by rw [Bk.manyS_size]; omega
    by_cases hlt : (k : Int) < n
    · go_wp2
      go_round
      case rel => exact ⟨k + 1, .inr (by omega), by go_num, rfl⟩
      case measure => simp [intOf]; omega
    · have hE : Hid (k = n.toNat) := Lib.hid (by omega)
      go_wp2
      go_ret
      exact ⟨ret_str (by rw [hE.out]), rfl⟩
end Go.Proofs.YtlmjabnkjmfcmaaGreat
/- strings.Builder by plain texts; Repeat of a line feed, gap, white of package fold, the document's Feeds: contracts. -/
namespace Go.Proofs.YtlmjabnkjmfcmaaGreat
open Go Go.RowKit Go.PlainAid
set_option linter.unusedVariables false
namespace Bk
theorem app_list (a b : ByteArray) : (a ++ b).data.toList = a.data.toList ++ b.data.toList := by simp [ByteArray.data_append]
theorem repeat_add (l : List UInt8) : ∀ c, Lib.repeatL l (c + 1) = Lib.repeatL l c ++ l
  | 0 => by simp [Lib.repeatL]
  | c + 1 => by
    show l ++ Lib.repeatL l (c + 1) = (l ++ Lib.repeatL l c) ++ l
    rw [repeat_add l c, List.append_assoc]
theorem repeat_many (x : UInt8) : ∀ c, (⟨(Lib.repeatL [x] c).toArray⟩ : ByteArray) = manyS x c
  | 0 => rfl
  | c + 1 => by
    have h : (⟨(Lib.repeatL [x] (c + 1)).toArray⟩ : ByteArray) = ⟨(Lib.repeatL [x] c).toArray⟩ ++ ⟨#[x]⟩ := by
      apply ByteArray.ext
      rw [ByteArray.data_append, repeat_add]
      simp
    rw [h, repeat_many x c, manyS]
/-- What blank rows come to between two others. -/
def gapS (n : Nat) : ByteArray := if n = 0 then ⟨#[32]⟩ else manyS 10 n
theorem gapS_size (n : Nat) : (gapS n).size ≤ n + 1 := by
  unfold gapS
  by_cases h : n = 0
  · rw [if_pos h]; show 1 ≤ n + 1; omega
  · rw [if_neg h, manyS_size]; omega
end Bk
set_option maxHeartbeats 400000 in
theorem rfeeds_any (n : Int) (w : World) (hn : n ≤ 140737488355328) :
    Calls Tryz.prog 146 #[.int .i64 n] w fun e w' => e = .returned (.string (Bk.manyS 10 n.toNat)) ∧ w = w' := by
  have hone : ({ data := #[10] } : ByteArray).size ≤ 1 := by decide
  go_enter Tryz.func146, Tryz.ntmps146
  go_wp2
  go_loop [3, 4] (fun s i => ∃ k : Nat, (k = 0 ∨ (k : Int) ≤ n) ∧ i = .int .i64 k ∧ s = .string (Bk.manyS 10 k)) (fun _ i => n.toNat - (intOf i).toNat)
  case atStart => exact ⟨0, .inl rfl, rfl, rfl⟩
  case round =>
    obtain ⟨k, hk, rfl, rfl⟩ := hrel
    have hz : (Bk.manyS 10 k).size ≤ k := by rw [Bk.manyS_size]; omega
    by_cases hlt : (k : Int) < n
    · go_wp2
      go_round
      case rel => exact ⟨k + 1, .inr (by omega), by go_num, rfl⟩
      case measure => simp [intOf]; omega
    · have hE : Hid (k = n.toNat) := Lib.hid (by omega)
      go_wp2
      go_ret
      exact ⟨ret_str (by rw [hE.out]), rfl⟩
end Go.Proofs.YtlmjabnkjmfcmaaGreat
/- Rows folded: plain functions; fold.Flow: its contract. -/
namespace Go.Proofs.YtlmjabnkjmfcmaaGreat
open Go Go.RowKit Go.PlainAid
set_option linter.unusedVariables false
/-- What a walk is told of a slice of texts. -/
def StrsAt (w : World) (a : Option Addr) (len : Nat) (xs : List ByteArray) : Prop :=
  xs.length = len ∧ len ≤ 140737488355328 ∧ (len = 0 ∨ ∃ b off, a = some ⟨b, off, none⟩ ∧ b < w.heap.size ∧ ∀ j, j < len → w.cell? ⟨b, off + j, none⟩ = some (.string (xs.getD j ByteArray.empty)))
theorem StrsAt.below {w w' : World} {a : Option Addr} {len : Nat} {xs : List ByteArray} (h : StrsAt w a len xs) (k : Below w.heap.size w w') : StrsAt w' a len xs := by
  obtain ⟨h1, h2, h3⟩ := h
  refine ⟨h1, h2, ?_⟩
  rcases h3 with h3 | ⟨b, off, rfl, hb, hc⟩
  · exact .inl h3
  · refine .inr ⟨b, off, rfl, Nat.lt_of_lt_of_le hb k.size, fun j hj => ?_⟩
    rw [k.cell (p := ⟨b, off + j, none⟩) hb]; exact hc j hj
namespace Bk
theorem no_text {s : ByteArray} (h : s.size = 0) : s.toList = [] := by
  rw [Lib.toList_data]
  have : s.data.toList.length = 0 := by rw [← Lib.size_eq]; exact h
  exact List.eq_nil_of_length_eq_zero this
theorem some_text {s : ByteArray} (h : 0 < s.size) : s.toList.isEmpty = false := by
  rw [Lib.toList_data]
  cases hq : s.data.toList with
  | nil => exfalso; have : s.data.toList.length = 0 := by rw [hq]; rfl
           rw [← Lib.size_eq] at this; omega
  | cons x l => rfl
def rowAt (xs : List ByteArray) (i : Nat) : ByteArray := xs.getD i ByteArray.empty
/-- What rows as in quotes come to behind so many of them; how many blank ones stand behind. -/
def flowSt (xs : List ByteArray) : Nat → ByteArray × Nat
  | 0 => (ByteArray.empty, 0)
  | i + 1 => if (rowAt xs i).size = 0 ∧ 0 < i ∧ i + 1 < xs.length then ((flowSt xs i).1, (flowSt xs i).2 + 1)
    else ((if 0 < i then (flowSt xs i).1 ++ gapS (flowSt xs i).2 else (flowSt xs i).1) ++ rowAt xs i, 0)
def foldFlow (xs : List ByteArray) : ByteArray := (flowSt xs xs.length).1
/-- How many bytes so many rows have together, and one for each. -/
def sumZ (xs : List ByteArray) : Nat → Nat
  | 0 => 0
  | i + 1 => sumZ xs i + (rowAt xs i).size + 1
theorem sumZ_le (xs : List ByteArray) (i : Nat) : ∀ d, sumZ xs i ≤ sumZ xs (i + d)
  | 0 => Nat.le_refl _
  | d + 1 => by have := sumZ_le xs i d; show _ ≤ sumZ xs (i + d) + _ + 1; omega
theorem sumZ_step {xs : List ByteArray} {i n : Nat} (h : i < n) : sumZ xs i + (rowAt xs i).size + 1 ≤ sumZ xs n := by
  have := sumZ_le xs (i + 1) (n - (i + 1))
  rw [show i + 1 + (n - (i + 1)) = n from by omega] at this
  exact this
theorem sumZ_ge (xs : List ByteArray) : ∀ i, i ≤ sumZ xs i
  | 0 => Nat.le_refl _
  | i + 1 => by have := sumZ_ge xs i; show _ ≤ sumZ xs i + _ + 1; omega
theorem flowSt_le (xs : List ByteArray) : ∀ i, (flowSt xs i).1.size + (flowSt xs i).2 ≤ sumZ xs i
  | 0 => Nat.le_refl _
  | i + 1 => by
    have ih := flowSt_le xs i
    have hg := gapS_size (flowSt xs i).2
    unfold flowSt
    by_cases h : (rowAt xs i).size = 0 ∧ 0 < i ∧ i + 1 < xs.length
    · rw [if_pos h]; show (flowSt xs i).1.size + ((flowSt xs i).2 + 1) ≤ sumZ xs i + _ + 1; omega
    · rw [if_neg h]
      by_cases h0 : 0 < i
      · rw [if_pos h0]; show (_ : ByteArray).size + 0 ≤ sumZ xs i + _ + 1; rw [size_app, size_app]; omega
      · rw [if_neg h0]; show (_ : ByteArray).size + 0 ≤ sumZ xs i + _ + 1; rw [size_app]; omega
end Bk
end Go.Proofs.YtlmjabnkjmfcmaaGreat
/- What a plain scalar is: plain functions. -/
namespace Go.Proofs.YtlmjabnkjmfcmaaGreat
open Go Go.RowKit Go.PlainAid
set_option linter.unusedVariables false
namespace Bk
theorem toN_from {s : ByteArray} {k j : Nat} (h : k ≤ j) (h1 : j ≤ toN s k) (h2 : k ≤ s.size) : toN s j = toN s k :=
  toN_eq h1 (toN_le h2) (fun i a b => toN_all (s := s) (k := k) (by omega) b) (fun a => toN_end a)
theorem white_feed {c : Int} (h : c = 10) : whiteB c = false := by subst h; decide
theorem firstN_row {s : ByteArray} {k : Nat} (h : k ≤ s.size) : firstN s k s.size = firstN s k (toN s k) := by
  have h1 := toN_ge s k
  have h2 := toN_le h
  have h3 := firstN_le (s := s) (k := k) (m := toN s k) h1
  have h4 := firstN_ge s k (toN s k)
  refine firstN_eq h4 (by omega) (fun j a b => firstN_all a b) (fun a => ?_)
  by_cases e : firstN s k (toN s k) < toN s k
  · exact firstN_end e
  · have e2 : firstN s k (toN s k) = toN s k := by omega
    rw [e2] at a ⊢
    exact white_feed (toN_end a)
/-- Behind which row blank ones end, and how many there are. -/
def skipN (s : ByteArray) : Nat → Nat → Nat → Nat × Nat
  | 0, t, b => (t, b)
  | f + 1, t, b => if t < s.size ∧ kindN s (t + 1) = 1 then skipN s f (toN s (t + 1)) (b + 1) else (t, b)
theorem skipN_no {s : ByteArray} {f t b : Nat} (h : ¬ (t < s.size ∧ kindN s (t + 1) = 1)) : skipN s f t b = (t, b) := by
  cases f with
  | zero => rfl
  | succ f => rw [skipN, if_neg h]
theorem skipN_yes {s : ByteArray} {f t b : Nat} (h : t < s.size) (hk : kindN s (t + 1) = 1) (hf : s.size - t < f) : ∃ f', skipN s f t b = skipN s f' (toN s (t + 1)) (b + 1) ∧ s.size - toN s (t + 1) < f' := by
  obtain ⟨f', rfl⟩ : ∃ f', f = f' + 1 := ⟨f - 1, by omega⟩
  have := toN_ge s (t + 1)
  exact ⟨f', by rw [skipN, if_pos ⟨h, hk⟩], by omega⟩
theorem skipN_ge (s : ByteArray) : ∀ f t b, t ≤ s.size → t + (skipN s f t b).2 ≤ (skipN s f t b).1 + b ∧ (skipN s f t b).1 ≤ s.size ∧ b ≤ (skipN s f t b).2
  | 0, t, b, h => ⟨Nat.le_refl _, h, Nat.le_refl _⟩
  | f + 1, t, b, h => by
    unfold skipN
    split
    · rename_i h1
      have h2 := toN_ge s (t + 1)
      have h3 := toN_le (s := s) (k := t + 1) (by omega)
      have := skipN_ge s f (toN s (t + 1)) (b + 1) h3
      omega
    · exact ⟨Nat.le_refl _, h, Nat.le_refl _⟩
/-- The next part behind a place: where it begins, how many blank rows stand between; is there one? -/
def nextS (s : ByteArray) (k : Nat) (n : Int) (fl : Bool) : Nat × Nat × Bool :=
  if firstN s k s.size < toN s k then (0, 0, false)
  else if (skipN s (s.size + 1) (toN s k) 0).1 < s.size ∧ kindN s ((skipN s (s.size + 1) (toN s k) 0).1 + 1) = 5 then
    (firstN s ((skipN s (s.size + 1) (toN s k) 0).1 + 1) s.size, (skipN s (s.size + 1) (toN s k) 0).2,
      decide (n < inN s ((skipN s (s.size + 1) (toN s k) 0).1 + 1)) && decide (firstN s ((skipN s (s.size + 1) (toN s k) 0).1 + 1) s.size < partN s (firstN s ((skipN s (s.size + 1) (toN s k) 0).1 + 1) s.size) fl))
  else (0, 0, false)
/-- All parts, from one's end on: where the last one ends, the rows, is there one alone? -/
def readL (s : ByteArray) (n : Int) (fl : Bool) : Nat → Nat → List ByteArray → Bool → Nat × List ByteArray × Bool
  | 0, e, l, o => (e, l, o)
  | f + 1, e, l, o => if (nextS s e n fl).2.2 = true then
      readL s n fl f (partN s (nextS s e n fl).1 fl) (l ++ List.replicate (nextS s e n fl).2.1 ByteArray.empty ++ [s.extract (nextS s e n fl).1 (partN s (nextS s e n fl).1 fl)]) false
    else (e, l, o)
theorem readL_no {s : ByteArray} {n : Int} {fl : Bool} {f e : Nat} {l : List ByteArray} {o : Bool} (h : (nextS s e n fl).2.2 = false) : readL s n fl f e l o = (e, l, o) := by
  cases f with
  | zero => rfl
  | succ f => rw [readL, if_neg (by rw [h]; decide)]
theorem next_is {s : ByteArray} {k : Nat} {n : Int} {fl : Bool} (hk : k ≤ s.size) (h : (nextS s k n fl).2.2 = true) :
    k + (nextS s k n fl).2.1 + 1 ≤ (nextS s k n fl).1 ∧ (nextS s k n fl).1 < partN s (nextS s k n fl).1 fl ∧ partN s (nextS s k n fl).1 fl ≤ s.size ∧ (nextS s k n fl).1 < s.size := by
  unfold nextS at h ⊢
  split at h
  · cases h
  · rename_i h1
    rw [if_neg h1]
    split at h
    · rename_i h2
      rw [if_pos h2]
      have ht := toN_ge s k
      have hs := skipN_ge s (s.size + 1) (toN s k) 0 (toN_le hk)
      generalize skipN s (s.size + 1) (toN s k) 0 = sk at *
      obtain ⟨t, b⟩ := sk
      simp only at h h2 hs ⊢
      have hf := firstN_ge s (t + 1) s.size
      simp only [Bool.and_eq_true, decide_eq_true_eq] at h
      have hp := h.2
      have hq := partN_le s (firstN s (t + 1) s.size) fl
      have hl := firstN_le (s := s) (k := t + 1) (m := s.size) (by omega)
      have hr := toN_le (s := s) (k := firstN s (t + 1) s.size) (by omega)
      have : firstN s (t + 1) s.size < s.size := by omega
      exact ⟨by omega, hp, by omega, this⟩
    · cases h
theorem readL_yes {s : ByteArray} {n : Int} {fl : Bool} {f e : Nat} {l : List ByteArray} {o : Bool} (he : e ≤ s.size) (h : (nextS s e n fl).2.2 = true) (hf : s.size - e < f) :
    ∃ f', readL s n fl f e l o = readL s n fl f' (partN s (nextS s e n fl).1 fl) (l ++ List.replicate (nextS s e n fl).2.1 ByteArray.empty ++ [s.extract (nextS s e n fl).1 (partN s (nextS s e n fl).1 fl)]) false ∧ s.size - partN s (nextS s e n fl).1 fl < f' := by
  obtain ⟨f', rfl⟩ : ∃ f', f = f' + 1 := ⟨f - 1, by omega⟩
  have := next_is he h
  exact ⟨f', by rw [readL, if_pos h], by omega⟩
/-- A colon that ends a part, behind a place. -/
def colonB (s : ByteArray) (e : Nat) : Bool := decide (firstN s e s.size < s.size) && bt s (firstN s e s.size) == 58 && stopsB s (firstN s e s.size) false
/-- The plain scalar at a place: its text, where it ends, is it of one part, a code. -/
def readS (s : ByteArray) (k : Nat) (n : Int) (fl : Bool) : ByteArray × Nat × Bool × Int :=
  if beginsB s k fl = true then
    if !fl && !(readL s n fl (s.size + 1) (partN s k fl) [s.extract k (partN s k fl)] true).2.2 && colonB s (readL s n fl (s.size + 1) (partN s k fl) [s.extract k (partN s k fl)] true).1 then
      (ByteArray.empty, firstN s (readL s n fl (s.size + 1) (partN s k fl) [s.extract k (partN s k fl)] true).1 s.size, false, 5)
    else (foldFlow (readL s n fl (s.size + 1) (partN s k fl) [s.extract k (partN s k fl)] true).2.1, (readL s n fl (s.size + 1) (partN s k fl) [s.extract k (partN s k fl)] true).1, (readL s n fl (s.size + 1) (partN s k fl) [s.extract k (partN s k fl)] true).2.2, 0)
  else (ByteArray.empty, k, false, 5)
theorem sumZ_app (xs ys : List ByteArray) : ∀ j, sumZ (xs ++ ys) (xs.length + j) = sumZ xs xs.length + sumZ ys j
  | 0 => by
    rw [Nat.add_zero]
    have : ∀ i, i ≤ xs.length → sumZ (xs ++ ys) i = sumZ xs i := by
      intro i
      induction i with
      | zero => intro _; rfl
      | succ i ih =>
        intro h
        have e : rowAt (xs ++ ys) i = rowAt xs i := by
          unfold rowAt
          rw [List.getD_eq_getElem?_getD, List.getD_eq_getElem?_getD, List.getElem?_append_left (by omega)]
        rw [sumZ, sumZ, ih (by omega), e]
    rw [this _ (Nat.le_refl _)]; rfl
  | j + 1 => by
    have e : rowAt (xs ++ ys) (xs.length + j) = rowAt ys j := by
      unfold rowAt
      rw [List.getD_eq_getElem?_getD, List.getD_eq_getElem?_getD, List.getElem?_append_right (by omega), Nat.add_sub_cancel_left]
    rw [← Nat.add_assoc, sumZ, sumZ, sumZ_app xs ys j, e]; omega
def sumA (xs : List ByteArray) : Nat := sumZ xs xs.length
theorem sumA_app (xs ys : List ByteArray) : sumA (xs ++ ys) = sumA xs + sumA ys := by
  unfold sumA; rw [List.length_append, sumZ_app]
theorem sumA_one (x : ByteArray) : sumA [x] = x.size + 1 := by show 0 + x.size + 1 = _; omega
theorem sumA_rep : ∀ n, sumA (List.replicate n ByteArray.empty) = n
  | 0 => rfl
  | n + 1 => by rw [List.replicate_succ', sumA_app, sumA_rep n, sumA_one]; rfl
theorem len_sumA (xs : List ByteArray) : xs.length ≤ sumA xs := sumZ_ge xs xs.length
end Bk
end Go.Proofs.YtlmjabnkjmfcmaaGreat
/- next of package plai: contract. -/
namespace Go.Proofs.YtlmjabnkjmfcmaaGreat
open Go Go.RowKit Go.PlainAid
set_option linter.unusedVariables false
theorem ret_next {a b : Int} {c : Bool} {x : Nat × Nat × Bool} (h1 : a = x.1) (h2 : b = x.2.1) (h3 : c = x.2.2) :
    Ending.returned (.tuple #[.int .i64 a, .int .i64 b, .bool c]) = .returned (.tuple #[.int .i64 (x.1 : Nat), .int .i64 (x.2.1 : Nat), .bool x.2.2]) := by rw [h1, h2, h3]
end Go.Proofs.YtlmjabnkjmfcmaaGreat
/- The document's FoldFlow: its contract. -/
namespace Go.Proofs.YtlmjabnkjmfcmaaGreat
open Go Go.RowKit Go.PlainAid
set_option linter.unusedVariables false
theorem rfeeds_nat (n : Nat) (w : World) (hn : n ≤ 140737488355328) :
    Calls Tryz.prog 146 #[.int .i64 n] w fun e w' => e = .returned (.string (Bk.manyS 10 n)) ∧ w' = w := by
  refine (rfeeds_any n w (by omega)).mono ?_
  rintro e w' ⟨rfl, rfl⟩
  exact ⟨rfl, rfl⟩
set_option maxRecDepth 20000 in
set_option maxHeartbeats 3200000 in
theorem rflow56_any (a : Option Addr) (len cap : Nat) (xs : List ByteArray) (w : World) (hx : StrsAt w a len xs) (hz : Bk.sumZ xs len ≤ 140737488355328) :
    Calls Tryz.prog 147 #[.slice a len cap] w fun e w' => e = .returned (.string (Bk.foldFlow xs)) ∧ Below w.heap.size w w' := by
  obtain ⟨hlen, hmax, hx⟩ := hx
  have HX := Lib.hid hx
  clear hx
  have HL := Lib.hid hlen
  clear hlen
  have q1 : ({ data := #[32] } : ByteArray).size = 1 := rfl
  go_enter Tryz.func147, Tryz.ntmps147
  go_wp2_with fail
  go_loopw [3, 4, 5] (fun s bl i wr => ∃ k : Nat, k ≤ len ∧ i = .int .i64 k ∧ s = .string (Bk.flowSt xs k).1 ∧ bl = .int .i64 (Bk.flowSt xs k).2 ∧ Hid (Below w.heap.size w wr)) (fun _ _ i _ => len - (intOf i).toNat)
  case atStart => exact ⟨0, by omega, rfl, rfl, rfl, Lib.hid (by go_grown)⟩
  case round =>
    obtain ⟨k, hk, rfl, rfl, rfl, HW⟩ := hrel
    by_cases hkl : k < len
    · rcases HX.out with h0 | ⟨b, off, rfl, hb, hc⟩
      · omega
      have hcell : wr.cell? ⟨b, off + k, none⟩ = some (.string (Bk.rowAt xs k)) := by
        rw [HW.out.cell (p := ⟨b, off + k, none⟩) hb]; exact hc k hkl
      have hs1 := Bk.sumZ_step (xs := xs) hkl
      have hs2 := Bk.flowSt_le xs k
      have hst0 : k = 0 → Bk.flowSt xs k = (ByteArray.empty, 0) := by rintro rfl; rfl
      have HN : Hid (Bk.flowSt xs (k + 1) = if (Bk.rowAt xs k).size = 0 ∧ 0 < k ∧ k + 1 < len then ((Bk.flowSt xs k).1, (Bk.flowSt xs k).2 + 1)
        else ((if 0 < k then (Bk.flowSt xs k).1 ++ Bk.gapS (Bk.flowSt xs k).2 else (Bk.flowSt xs k).1) ++ Bk.rowAt xs k, 0)) := Lib.hid (by rw [← HL.out]; rfl)
      generalize Bk.flowSt xs k = st at *
      obtain ⟨acc, bl⟩ := st
      generalize Bk.rowAt xs k = r at *
      have hsz : acc.size + bl + r.size + 1 ≤ 140737488355328 := by have h : acc.size + bl ≤ Bk.sumZ xs k := hs2; omega
      clear hs1 hs2 hc
      by_cases hA : r.size = 0 ∧ 0 < k ∧ k + 1 < len
      · have HN2 : Hid (Bk.flowSt xs (k + 1) = (acc, bl + 1)) := Lib.hid (by rw [HN.out, if_pos hA])
        have hr := Bk.no_text hA.1
        obtain ⟨_, hA2, hA3⟩ := hA
        clear hst0
        go_wp2_with fail
        go_roundw
        case rel => exact ⟨k + 1, by omega, by go_num, by rw [HN2.out], by rw [HN2.out]; go_num, HW⟩
        case measure => simp [intOf]; omega
      · by_cases hk0 : k = 0
        · obtain ⟨rfl, rfl⟩ : acc = ByteArray.empty ∧ bl = 0 := by have := hst0 hk0; simpa using this
          have HN2 : Hid (Bk.flowSt xs (k + 1) = (r, 0)) := Lib.hid (by rw [HN.out, if_neg hA, if_neg (by omega), ByteArray.empty_append])
          clear hst0
          subst hk0
          rw [Nat.add_zero] at hcell
          clear hA
          go_wp2_with fail
          go_roundw
          case rel => exact ⟨1, by omega, by go_num, by rw [HN2.out], by rw [HN2.out], HW⟩
          case measure => simp [intOf]; omega
        · have HN2 : Hid (Bk.flowSt xs (k + 1) = (acc ++ Bk.gapS bl ++ r, 0)) := Lib.hid (by rw [HN.out, if_neg hA, if_pos (by omega)])
          have hr : (r.toList = [] ∧ ¬ k + 1 < len) ∨ r.toList.isEmpty = false := by
            by_cases h : r.size = 0
            · exact .inl ⟨Bk.no_text h, fun h2 => hA ⟨h, by omega, h2⟩⟩
            · exact .inr (Bk.some_text (by omega))
          clear hA hst0
          by_cases hbl : bl = 0
          · subst hbl
            have z1 := Bk.size_app acc ⟨#[32]⟩
            have z2 := Bk.size_app (acc ++ ⟨#[32]⟩) (Bk.manyS 10 0)
            have z3 := Bk.manyS_size 10 0
            have HE : Hid (acc ++ ⟨#[32]⟩ ++ Bk.manyS 10 0 ++ r = acc ++ Bk.gapS 0 ++ r) := Lib.hid (by
              have h1 : Bk.manyS 10 0 = ByteArray.empty := rfl
              have h2 : Bk.gapS 0 = ⟨#[32]⟩ := rfl
              rw [h1, h2, ByteArray.append_empty])
            rcases hr with ⟨hr, hr2⟩ | hr
            all_goals
              go_wp2_with fail
              go_quiet ((go_at_call 146; exact Calls.quiet_of_same (rfeeds_nat 0 _ (by omega))))
              go_wp2_with fail
              go_roundw
              case rel => exact ⟨k + 1, by omega, by go_num, by rw [HN2.out, HE.out], by rw [HN2.out]; rfl, Lib.hid (below_drewN HW.out _)⟩
              case measure => simp [intOf]; omega
          · have z1 := Bk.size_app acc (Bk.manyS 10 bl)
            have z3 := Bk.manyS_size 10 bl
            have HE : Hid (acc ++ Bk.manyS 10 bl ++ r = acc ++ Bk.gapS bl ++ r) := Lib.hid (by unfold Bk.gapS; rw [if_neg hbl])
            rcases hr with ⟨hr, hr2⟩ | hr
            all_goals
              go_wp2_with fail
              go_quiet ((go_at_call 146; exact Calls.quiet_of_same (rfeeds_nat bl _ (by omega))))
              go_wp2_with fail
              go_roundw
              case rel => exact ⟨k + 1, by omega, by go_num, by rw [HN2.out, HE.out], by rw [HN2.out]; rfl, Lib.hid (below_drewN HW.out _)⟩
              case measure => simp [intOf]; omega
    · obtain rfl : k = len := by omega
      have HE : Hid (Bk.foldFlow xs = (Bk.flowSt xs k).1) := Lib.hid (by unfold Bk.foldFlow; rw [HL.out])
      go_wp2_with fail
      go_ret
      exact ⟨ret_str (by rw [HE.out]), HW.out⟩
end Go.Proofs.YtlmjabnkjmfcmaaGreat
/- Rows of a block: plain functions; fold.Block where it folds: its contract. -/
namespace Go.Proofs.YtlmjabnkjmfcmaaGreat
open Go Go.RowKit Go.PlainAid
set_option linter.unusedVariables false
namespace Bk
/-- What stands between two rows that are something. -/
def midS (l r : ByteArray) (bl : Nat) : ByteArray :=
  if l.size = 0 then manyS 10 bl else if whiteB (bt l 0) || whiteB (bt r 0) then manyS 10 (bl + 1) else gapS bl
theorem midS_size (l r : ByteArray) (bl : Nat) : (midS l r bl).size ≤ bl + 1 := by
  have h := gapS_size bl
  unfold midS
  split
  · rw [manyS_size]; omega
  · split
    · rw [manyS_size]; omega
    · exact h
/-- What rows of a block come to behind so many of them; how many blank ones stand behind; the last one that is something. -/
def blockSt (xs : List ByteArray) : Nat → ByteArray × Nat × ByteArray
  | 0 => (ByteArray.empty, 0, ByteArray.empty)
  | i + 1 => if (rowAt xs i).size = 0 then ((blockSt xs i).1, (blockSt xs i).2.1 + 1, (blockSt xs i).2.2)
    else ((blockSt xs i).1 ++ midS (blockSt xs i).2.2 (rowAt xs i) (blockSt xs i).2.1 ++ rowAt xs i, 0, rowAt xs i)
def foldBlock (xs : List ByteArray) : ByteArray :=
  (blockSt xs xs.length).1 ++ manyS 10 (if (blockSt xs xs.length).2.2.size = 0 then (blockSt xs xs.length).2.1 - 1 else (blockSt xs xs.length).2.1)
theorem blockSt_le (xs : List ByteArray) : ∀ i, (blockSt xs i).1.size + (blockSt xs i).2.1 ≤ sumZ xs i
  | 0 => Nat.le_refl _
  | i + 1 => by
    have ih := blockSt_le xs i
    have hg := midS_size (blockSt xs i).2.2 (rowAt xs i) (blockSt xs i).2.1
    unfold blockSt
    by_cases h : (rowAt xs i).size = 0
    · rw [if_pos h]; show (blockSt xs i).1.size + ((blockSt xs i).2.1 + 1) ≤ sumZ xs i + _ + 1; omega
    · rw [if_neg h]; show (_ : ByteArray).size + 0 ≤ sumZ xs i + _ + 1; rw [size_app, size_app]; omega
end Bk
end Go.Proofs.YtlmjabnkjmfcmaaGreat
/- The document's FoldBlock; both where nothing is folded: contracts. -/
namespace Go.Proofs.YtlmjabnkjmfcmaaGreat
open Go Go.RowKit Go.PlainAid
set_option linter.unusedVariables false
namespace Bk
/-- Rows, parted by line feeds. -/
def joinS (xs : List ByteArray) : Nat → ByteArray
  | 0 => ByteArray.empty
  | i + 1 => (if 0 < i then joinS xs i ++ ⟨#[10]⟩ else joinS xs i) ++ rowAt xs i
theorem joinS_le (xs : List ByteArray) : ∀ i, (joinS xs i).size ≤ sumZ xs i
  | 0 => Nat.le_refl _
  | i + 1 => by
    have ih := joinS_le xs i
    have q : ({ data := #[10] } : ByteArray).size = 1 := rfl
    unfold joinS
    by_cases h0 : 0 < i
    · rw [if_pos h0]; show (_ : ByteArray).size ≤ sumZ xs i + _ + 1; rw [size_app, size_app]; omega
    · rw [if_neg h0]; show (_ : ByteArray).size ≤ sumZ xs i + _ + 1; rw [size_app]; omega
end Bk
set_option maxRecDepth 20000 in
set_option maxHeartbeats 3200000 in
theorem rkeep58_any (a : Option Addr) (len cap : Nat) (xs : List ByteArray) (w : World) (hx : StrsAt w a len xs) (hz : Bk.sumZ xs len ≤ 140737488355328) :
    Calls Tryz.prog 145 #[.slice a len cap, .bool false] w fun e w' => e = .returned (.string (Bk.joinS xs len)) ∧ w = w' := by
  obtain ⟨hlen, hmax, hx⟩ := hx
  have HX := Lib.hid hx
  clear hx
  have q1 : ({ data := #[10] } : ByteArray).size = 1 := rfl
  go_enter Tryz.func145, Tryz.ntmps145
  go_wp2_with fail
  go_loop [5, 6] (fun s i => ∃ k : Nat, k ≤ len ∧ i = .int .i64 k ∧ s = .string (Bk.joinS xs k)) (fun _ i => len - (intOf i).toNat)
  case atStart => exact ⟨0, by omega, rfl, rfl⟩
  case round =>
    obtain ⟨k, hk, rfl, rfl⟩ := hrel
    by_cases hkl : k < len
    · rcases HX.out with h0 | ⟨b, off, rfl, hb, hc⟩
      · omega
      have hcell : w.cell? ⟨b, off + k, none⟩ = some (.string (Bk.rowAt xs k)) := hc k hkl
      have hs1 := Bk.sumZ_step (xs := xs) hkl
      have hs2 := Bk.joinS_le xs k
      have HN : Hid (Bk.joinS xs (k + 1) = (if 0 < k then Bk.joinS xs k ++ ⟨#[10]⟩ else Bk.joinS xs k) ++ Bk.rowAt xs k) := Lib.hid rfl
      generalize Bk.joinS xs k = acc at *
      generalize Bk.rowAt xs k = r at *
      have z1 := Bk.size_app acc ⟨#[10]⟩
      have hsz : acc.size + r.size + 1 ≤ 140737488355328 := by omega
      clear hs1 hs2 hc
      by_cases hk0 : k = 0
      · have HN2 : Hid (Bk.joinS xs (k + 1) = acc ++ r) := Lib.hid (by rw [HN.out, if_neg (by omega)])
        subst hk0
        rw [Nat.add_zero] at hcell
        go_wp2_with fail
        go_round
        case rel => exact ⟨1, by omega, by go_num, by rw [HN2.out]⟩
        case measure => simp [intOf]; omega
      · have HN2 : Hid (Bk.joinS xs (k + 1) = acc ++ ⟨#[10]⟩ ++ r) := Lib.hid (by rw [HN.out, if_pos (by omega)])
        go_wp2_with fail
        go_round
        case rel => exact ⟨k + 1, by omega, by go_num, by rw [HN2.out]⟩
        case measure => simp [intOf]; omega
    · obtain rfl : k = len := by omega
      go_wp2_with fail
      go_ret
      exact ⟨rfl, rfl⟩
set_option maxRecDepth 20000 in
set_option maxHeartbeats 3200000 in
theorem rblock58_any (a : Option Addr) (len cap : Nat) (xs : List ByteArray) (w : World) (hx : StrsAt w a len xs) (hz : Bk.sumZ xs len ≤ 140737488355328) :
    Calls Tryz.prog 145 #[.slice a len cap, .bool true] w fun e w' => e = .returned (.string (Bk.foldBlock xs)) ∧ w = w' := by
  obtain ⟨hlen, hmax, hx⟩ := hx
  have HX := Lib.hid hx
  clear hx
  have HL := Lib.hid hlen
  clear hlen
  have q1 : ({ data := #[32] } : ByteArray).size = 1 := rfl
  go_enter Tryz.func145, Tryz.ntmps145
  go_wp2_with fail
  go_loop [5, 7, 8, 9] (fun s l bl i => ∃ (k : Nat) (la : Int), k ≤ len ∧ i = .int .i64 k ∧ s = .string (Bk.blockSt xs k).1 ∧ bl = .int .i64 (Bk.blockSt xs k).2.1 ∧ l = .int .i64 la ∧
    Hid ((la = -1 ∧ (Bk.blockSt xs k).2.2.size = 0) ∨ ∃ j : Nat, j < k ∧ la = j ∧ Bk.rowAt xs j = (Bk.blockSt xs k).2.2 ∧ 0 < (Bk.blockSt xs k).2.2.size)) (fun _ _ _ i => len - (intOf i).toNat)
  case atStart => exact ⟨0, -1, by omega, rfl, rfl, rfl, rfl, Lib.hid (.inl ⟨rfl, rfl⟩)⟩
  case round =>
    obtain ⟨k, la0, hk, rfl, rfl, rfl, rfl, HA⟩ := hrel
    have hs2 := Bk.blockSt_le xs k
    by_cases hkl : k < len
    · rcases HX.out with h0 | ⟨b, off, rfl, hb, hc⟩
      · omega
      have hcell : w.cell? ⟨b, off + k, none⟩ = some (.string (Bk.rowAt xs k)) := hc k hkl
      have hs1 := Bk.sumZ_step (xs := xs) hkl
      have HN : Hid (Bk.blockSt xs (k + 1) = if (Bk.rowAt xs k).size = 0 then ((Bk.blockSt xs k).1, (Bk.blockSt xs k).2.1 + 1, (Bk.blockSt xs k).2.2)
        else ((Bk.blockSt xs k).1 ++ Bk.midS (Bk.blockSt xs k).2.2 (Bk.rowAt xs k) (Bk.blockSt xs k).2.1 ++ Bk.rowAt xs k, 0, Bk.rowAt xs k)) := Lib.hid rfl
      have HC := Lib.hid hc
      clear hc
      generalize Bk.blockSt xs k = st at *
      obtain ⟨acc, bl, la⟩ := st
      replace HA : Hid ((la0 = -1 ∧ la.size = 0) ∨ ∃ j : Nat, j < k ∧ la0 = j ∧ Bk.rowAt xs j = la ∧ 0 < la.size) := HA
      obtain ⟨r, hrq⟩ : ∃ r, r = Bk.rowAt xs k := ⟨_, rfl⟩
      rw [← hrq] at hcell hs1 HN
      have HR := Lib.hid hrq
      clear hrq
      have hb1 := get_bt r
      have hb2 := get_bt la
      have hsz : acc.size + bl + r.size + 1 ≤ 140737488355328 := by have h : acc.size + bl ≤ Bk.sumZ xs k := hs2; omega
      clear hs1 hs2
      by_cases hA : r.size = 0
      · have HN2 : Hid (Bk.blockSt xs (k + 1) = (acc, bl + 1, la)) := Lib.hid (by rw [HN.out, if_pos hA])
        have hr := Bk.no_text hA
        have HA2 : Hid ((la0 = -1 ∧ la.size = 0) ∨ ∃ j : Nat, j < k + 1 ∧ la0 = j ∧ Bk.rowAt xs j = la ∧ 0 < la.size) := Lib.hid (by
          rcases HA.out with h | ⟨j, h1, h2, h3⟩
          · exact .inl h
          · exact .inr ⟨j, by omega, h2, h3⟩)
        go_wp2_with fail
        go_round
        case rel => exact ⟨k + 1, la0, by omega, by go_num, by rw [HN2.out], by rw [HN2.out]; go_num, rfl, by rw [HN2.out]; exact HA2⟩
        case measure => simp [intOf]; omega
      · have hr := Bk.some_text (s := r) (by omega)
        have HN2 : Hid (Bk.blockSt xs (k + 1) = (acc ++ Bk.midS la r bl ++ r, 0, r)) := Lib.hid (by rw [HN.out, if_neg hA])
        have hrp : 0 < r.size := by omega
        have HA2 : Hid (((k : Int) = -1 ∧ r.size = 0) ∨ ∃ j : Nat, j < k + 1 ∧ (k : Int) = j ∧ Bk.rowAt xs j = r ∧ 0 < r.size) := Lib.hid (.inr ⟨k, by omega, rfl, HR.out.symm, hrp⟩)
        clear hA
        rcases HA.out with ⟨rfl, hl⟩ | ⟨j, hjk, rfl, hrj, hlp⟩
        · have HN3 : Hid (Bk.blockSt xs (k + 1) = (acc ++ Bk.manyS 10 bl ++ r, 0, r)) := Lib.hid (by rw [HN2.out]; unfold Bk.midS; rw [if_pos hl])
          have z1 := Bk.size_app acc (Bk.manyS 10 bl)
          have z2 := Bk.manyS_size 10 bl
          clear hl
          go_wp2_with (go_at_call 146; refine (rfeeds_nat bl _ (by omega)).mono ?_; rintro e w1 ⟨rfl, rfl⟩)
          go_round
          case rel => exact ⟨k + 1, k, by omega, by go_num, by rw [HN3.out], by rw [HN3.out]; rfl, rfl, by rw [HN3.out]; exact HA2⟩
          case measure => simp [intOf]; omega
        · have hcj : w.cell? ⟨b, off + j, none⟩ = some (.string la) := by rw [← hrj]; exact HC.out j (by omega)
          have hjl : j < len := by omega
          have HL0 : Hid (¬ la.size = 0) := Lib.hid (by omega)
          cases hw1 : Bk.whiteB (bt la 0) with
          | true =>
            have HN3 : Hid (Bk.blockSt xs (k + 1) = (acc ++ Bk.manyS 10 (bl + 1) ++ r, 0, r)) := Lib.hid (by rw [HN2.out]; unfold Bk.midS; rw [if_neg HL0.out, hw1, Bool.true_or, if_pos rfl])
            have z1 := Bk.size_app acc (Bk.manyS 10 (bl + 1))
            have z2 := Bk.manyS_size 10 (bl + 1)
            go_wp2_with first
              | (go_at_call 63; refine (rwhite_any _ _).mono ?_; rintro e w1 ⟨rfl, rfl⟩)
              | (go_at_call 146; rw [show ((bl : Int) + 1) = ((bl + 1 : Nat) : Int) from by omega]; refine (rfeeds_nat (bl + 1) _ (by omega)).mono ?_; rintro e w1 ⟨rfl, rfl⟩)
            go_round
            case rel => exact ⟨k + 1, k, by omega, by go_num, by rw [HN3.out], by rw [HN3.out]; rfl, rfl, by rw [HN3.out]; exact HA2⟩
            case measure => simp [intOf]; omega
          | false =>
            cases hw2 : Bk.whiteB (bt r 0) with
            | true =>
              have HN3 : Hid (Bk.blockSt xs (k + 1) = (acc ++ Bk.manyS 10 (bl + 1) ++ r, 0, r)) := Lib.hid (by rw [HN2.out]; unfold Bk.midS; rw [if_neg HL0.out, hw1, hw2, Bool.false_or, if_pos rfl])
              have z1 := Bk.size_app acc (Bk.manyS 10 (bl + 1))
              have z2 := Bk.manyS_size 10 (bl + 1)
              go_wp2_with first
                | (go_at_call 63; refine (rwhite_any _ _).mono ?_; rintro e w1 ⟨rfl, rfl⟩)
                | (go_at_call 146; rw [show ((bl : Int) + 1) = ((bl + 1 : Nat) : Int) from by omega]; refine (rfeeds_nat (bl + 1) _ (by omega)).mono ?_; rintro e w1 ⟨rfl, rfl⟩)
              go_round
              case rel => exact ⟨k + 1, k, by omega, by go_num, by rw [HN3.out], by rw [HN3.out]; rfl, rfl, by rw [HN3.out]; exact HA2⟩
              case measure => simp [intOf]; omega
            | false =>
              have HN3 : Hid (Bk.blockSt xs (k + 1) = (acc ++ Bk.gapS bl ++ r, 0, r)) := Lib.hid (by rw [HN2.out]; unfold Bk.midS; rw [if_neg HL0.out, hw1, hw2, Bool.false_or, if_neg (by decide)])
              by_cases hbl : bl = 0
              · subst hbl
                have HN4 : Hid (Bk.blockSt xs (k + 1) = (acc ++ ⟨#[32]⟩ ++ r, 0, r)) := HN3
                have z1 := Bk.size_app acc ⟨#[32]⟩
                go_wp2_with (go_at_call 63; refine (rwhite_any _ _).mono ?_; rintro e w1 ⟨rfl, rfl⟩)
                go_round
                case rel => exact ⟨k + 1, k, by omega, by go_num, by rw [HN4.out], by rw [HN4.out]; rfl, rfl, by rw [HN4.out]; exact HA2⟩
                case measure => simp [intOf]; omega
              · have HN4 : Hid (Bk.blockSt xs (k + 1) = (acc ++ Bk.manyS 10 bl ++ r, 0, r)) := Lib.hid (by rw [HN3.out]; unfold Bk.gapS; rw [if_neg hbl])
                have z1 := Bk.size_app acc (Bk.manyS 10 bl)
                have z2 := Bk.manyS_size 10 bl
                go_wp2_with first
                  | (go_at_call 63; refine (rwhite_any _ _).mono ?_; rintro e w1 ⟨rfl, rfl⟩)
                  | (go_at_call 146; refine (rfeeds_nat bl _ (by omega)).mono ?_; rintro e w1 ⟨rfl, rfl⟩)
                go_round
                case rel => exact ⟨k + 1, k, by omega, by go_num, by rw [HN4.out], by rw [HN4.out]; rfl, rfl, by rw [HN4.out]; exact HA2⟩
                case measure => simp [intOf]; omega
    · obtain rfl : k = len := by omega
      have hs3 : (Bk.blockSt xs k).1.size + (Bk.blockSt xs k).2.1 ≤ 140737488355328 := by omega
      have HE : Hid (Bk.foldBlock xs = (Bk.blockSt xs k).1 ++ Bk.manyS 10 (if (Bk.blockSt xs k).2.2.size = 0 then (Bk.blockSt xs k).2.1 - 1 else (Bk.blockSt xs k).2.1)) := Lib.hid (by unfold Bk.foldBlock; rw [HL.out])
      clear hs2
      generalize Bk.blockSt xs k = st at *
      obtain ⟨acc, bl, la⟩ := st
      replace HA : Hid ((la0 = -1 ∧ la.size = 0) ∨ ∃ j : Nat, j < k ∧ la0 = j ∧ Bk.rowAt xs j = la ∧ 0 < la.size) := HA
      replace hs3 : acc.size + bl ≤ 140737488355328 := hs3
      rcases HA.out with ⟨rfl, hl⟩ | ⟨j, hjk, rfl, hrj, hlp⟩
      · have HE2 : Hid (Bk.foldBlock xs = acc ++ Bk.manyS 10 (bl - 1)) := Lib.hid (by rw [HE.out]; show acc ++ Bk.manyS 10 (if la.size = 0 then _ else _) = _; rw [if_pos hl])
        have z1 := Bk.size_app acc (Bk.manyS 10 (bl - 1))
        have z2 := Bk.manyS_size 10 (bl - 1)
        clear hl
        by_cases hbl : bl = 0
        · subst hbl
          go_wp2_with (go_at_call 146; refine (rfeeds_nat 0 _ (by omega)).mono ?_; rintro e w1 ⟨rfl, rfl⟩)
          go_ret
          exact ⟨ret_str (by rw [HE2.out]), rfl⟩
        · have EB : Hid ((bl : Int) - 1 = ((bl - 1 : Nat) : Int)) := Lib.hid (by omega)
          go_wp2_with (go_at_call 146; rw [EB.out]; refine (rfeeds_nat (bl - 1) _ (by omega)).mono ?_; rintro e w1 ⟨rfl, rfl⟩)
          go_ret
          exact ⟨ret_str (by rw [HE2.out]), rfl⟩
      · have HE2 : Hid (Bk.foldBlock xs = acc ++ Bk.manyS 10 bl) := Lib.hid (by rw [HE.out]; show acc ++ Bk.manyS 10 (if la.size = 0 then _ else _) = _; rw [if_neg (by omega)])
        have z1 := Bk.size_app acc (Bk.manyS 10 bl)
        have z2 := Bk.manyS_size 10 bl
        go_wp2_with (go_at_call 146; refine (rfeeds_nat bl _ (by omega)).mono ?_; rintro e w1 ⟨rfl, rfl⟩)
        go_ret
        exact ⟨ret_str (by rw [HE2.out]), rfl⟩
end Go.Proofs.YtlmjabnkjmfcmaaGreat
/- What every program that is one answers of package fold. -/
namespace Go.Proofs.YtlmjabnkjmfcmaaGreat
open Go Go.RowKit Go.PlainAid
set_option linter.unusedVariables false
theorem strsAt_tab (w : World) (xs : List ByteArray) (hx : xs.length ≤ 1000) : StrsAt (w.alloc (.cells (xs.map Value.string).toArray 9)) (some ⟨w.heap.size, 0, none⟩) xs.length xs :=
  ⟨rfl, by omega, .inr ⟨w.heap.size, 0, rfl, by simp, fun j hj => by rw [Nat.zero_add]; exact Bk.tab_cell w 9 _ rfl xs j hj⟩⟩
theorem below_tab {w wr w' : World} {o : Obj} (h : Below w.heap.size w wr) (hg : Below (wr.alloc o).heap.size (wr.alloc o) w') : Below w.heap.size w w' :=
  (h.alloc h.size o).trans (hg.mono (h.alloc h.size o).size)
namespace Bk
theorem f6_1 : foldFlow [⟨#[97]⟩, ⟨#[]⟩, ⟨#[]⟩, ⟨#[98]⟩] = ⟨#[97, 10, 10, 98]⟩ := by decide +kernel
theorem f6_2 : foldFlow [⟨#[]⟩, ⟨#[98]⟩] = ⟨#[32, 98]⟩ := by decide +kernel
theorem f6_3 : foldBlock [⟨#[97]⟩, ⟨#[98]⟩] = ⟨#[97, 32, 98]⟩ := by decide +kernel
theorem f6_4 : foldBlock [⟨#[97]⟩, ⟨#[32, 98]⟩] = ⟨#[97, 10, 32, 98]⟩ := by decide +kernel
theorem f6_5 : joinS [⟨#[97]⟩, ⟨#[98]⟩] 2 = ⟨#[97, 10, 98]⟩ := by decide +kernel
theorem z6_1 : sumZ [⟨#[97]⟩, ⟨#[]⟩, ⟨#[]⟩, ⟨#[98]⟩] 4 ≤ 140737488355328 := by decide +kernel
theorem z6_2 : sumZ [⟨#[]⟩, ⟨#[98]⟩] 2 ≤ 140737488355328 := by decide +kernel
theorem z6_3 : sumZ [⟨#[97]⟩, ⟨#[98]⟩] 2 ≤ 140737488355328 := by decide +kernel
theorem z6_4 : sumZ [⟨#[97]⟩, ⟨#[32, 98]⟩] 2 ≤ 140737488355328 := by decide +kernel
theorem z6_5 : sumZ [⟨#[97]⟩, ⟨#[98]⟩] 2 ≤ 140737488355328 := by decide +kernel
theorem t6_1 (w : World) : StrsAt (w.alloc (.cells #[.string ⟨#[97]⟩, .string ⟨#[]⟩, .string ⟨#[]⟩, .string ⟨#[98]⟩] 9)) (some ⟨w.heap.size, 0, none⟩) 4 [⟨#[97]⟩, ⟨#[]⟩, ⟨#[]⟩, ⟨#[98]⟩] := strsAt_tab w [⟨#[97]⟩, ⟨#[]⟩, ⟨#[]⟩, ⟨#[98]⟩] (by decide)
theorem t6_2 (w : World) : StrsAt (w.alloc (.cells #[.string ⟨#[]⟩, .string ⟨#[98]⟩] 9)) (some ⟨w.heap.size, 0, none⟩) 2 [⟨#[]⟩, ⟨#[98]⟩] := strsAt_tab w [⟨#[]⟩, ⟨#[98]⟩] (by decide)
theorem t6_3 (w : World) : StrsAt (w.alloc (.cells #[.string ⟨#[97]⟩, .string ⟨#[98]⟩] 9)) (some ⟨w.heap.size, 0, none⟩) 2 [⟨#[97]⟩, ⟨#[98]⟩] := strsAt_tab w [⟨#[97]⟩, ⟨#[98]⟩] (by decide)
theorem t6_4 (w : World) : StrsAt (w.alloc (.cells #[.string ⟨#[97]⟩, .string ⟨#[32, 98]⟩] 9)) (some ⟨w.heap.size, 0, none⟩) 2 [⟨#[97]⟩, ⟨#[32, 98]⟩] := strsAt_tab w [⟨#[97]⟩, ⟨#[32, 98]⟩] (by decide)
end Bk
end Go.Proofs.YtlmjabnkjmfcmaaGreat
/- Lists of texts that a call has made itself: one more behind. -/
namespace Go.Proofs.YtlmjabnkjmfcmaaGreat
open Go Go.RowKit Go.PlainAid
set_option linter.unusedVariables false
/-- A list of texts in a row of the call's own. -/
def Own (B : Nat) (v : Value) (xs : List ByteArray) (w : World) : Prop := w.ownsRow B 9 1 v xs.length (xs.map Value.string)
theorem own_nil (B : Nat) (w : World) : Own B (.slice none 0 0) [] w := World.ownsRow_nil w B 9 1
theorem Own.below {B : Nat} {v : Value} {xs : List ByteArray} {w w' : World} (h : Own B v xs w) (k : Below w.heap.size w w') : Own B v xs w' := by
  refine ⟨h.1, ?_⟩
  rcases h.2 with hn | ⟨g, cap, cur, hv, hg, hgb, rest⟩
  · exact .inl hn
  · refine .inr ⟨g, cap, cur, hv, hg, (k.block g ?_).trans hgb, rest⟩
    rcases Nat.lt_or_ge g w.heap.size with h' | h'
    · exact h'
    · simp [Array.getElem?_eq_none h'] at hgb
theorem own_strs {B : Nat} {v : Value} {xs : List ByteArray} {w : World} (h : Own B v xs w) (hx : xs.length ≤ 140737488355328) :
    ∃ a cap, v = .slice a xs.length cap ∧ StrsAt w a xs.length xs ∧ xs.length ≤ cap := by
  rcases h.2 with ⟨hv, h0⟩ | ⟨g, cap, cur, hv, hg, hgb, hn, hm, hs, ht⟩
  · refine ⟨none, 0, ?_, ⟨rfl, hx, .inl h0⟩, by omega⟩
    rw [h0]; exact hv
  · refine ⟨some ⟨g, 0, none⟩, cap, hv, ⟨rfl, hx, .inr ⟨g, 0, rfl, (Array.getElem?_eq_some_iff.1 hgb).1, fun j hj => ?_⟩⟩, hn⟩
    rw [Nat.zero_add, Lib.cell_of_heap hgb]
    have h2 : (cur.toList.take (xs.length * 1))[j]? = (xs.map Value.string)[j]? := by rw [ht]
    rw [List.getElem?_take_of_lt (by omega), Array.getElem?_toList] at h2
    rw [h2, List.getElem?_map, List.getElem?_eq_getElem hj, List.getD_eq_getElem?_getD, List.getElem?_eq_getElem hj]
    rfl
theorem Tryz.info9 : (Tryz.prog.info? 9).map (fun i => (i.zero, i.size, i.bytes)) = some (some (.string .empty), 1, 16) := by kernel_rfl
theorem app_one {ops : Array Oper} {rest : List Oper} {o : Oper} {a : Act} {Q : Exit → Act → World → Prop} {w0 wr : World} (hgd : o.guard = none) (s x : Operand)
    (ho : o.op = .call { callee := .builtin .append, args := #[s, x], argTypes := #[32, 32] }) (v : Value) (xs : List ByteArray) (t : ByteArray) (hs : a.eval s = v)
    (hx : a.eval x = .slice (some ⟨wr.heap.size, 0, none⟩) 1 1) (hown : Hid (Own w0.heap.size v xs wr)) (hlen : xs.length ≤ 1000000) (hb : Hid (Below w0.heap.size w0 wr))
    (h : ∀ v' w', Hid (Own w0.heap.size v' (xs ++ [t]) w') → Hid (Below w0.heap.size w0 w') → wpList Tryz.prog ops Q rest (a.put o.dst v') w') :
    wpList Tryz.prog ops Q (o :: rest) a (wr.alloc (.cells #[.string t] 9)) := by
  obtain ⟨i0, hi, hz0, hz1, hz2⟩ := info_parts Tryz.info9
  have hB : w0.heap.size ≤ wr.heap.size := hb.out.size
  refine wpList_append_own _ hgd s x 32 ho w0.heap.size 9 i0 (.string .empty) 1 16 Tryz.underlying32 hi hz0 hz1 hz2 rfl (by decide) v xs.length (xs.map Value.string) hs (World.ownsRow.alloc hown.out _) ⟨wr.heap.size, 0, none⟩ 1 1 [.string t] hx rfl ?_ ?_ ?_ ?_ ?_ ?_
  · intro j u hj
    match j, hj with
    | 0, hj => simp at hj; subst hj; simp [Addr.add]
    | j + 1, hj => simp at hj
  · intro u hu; simp at hu; subst hu; rfl
  · unfold maxLen; omega
  · omega
  · simp; omega
  · intro v' w' hown' hgrow _
    refine h v' w' ?_ ?_
    · show World.ownsRow _ _ _ _ _ _ _
      rw [List.length_append, List.map_append]
      exact hown'
    · exact (hb.out.alloc hB _).grown hgrow (by simp; omega) (fun k hk => (World.ownsRow.lt hown.out k hk).1)
end Go.Proofs.YtlmjabnkjmfcmaaGreat
/- Lists of texts: a whole one laid anew, one of its texts made nothing; lists of bools that came in; Long of any list. -/
namespace Go.Proofs.YtlmjabnkjmfcmaaGreat
open Go Go.RowKit Go.PlainAid
set_option linter.unusedVariables false
def BoolsAt (w : World) (a : Option Addr) (len : Nat) (zs : Nat → Bool) : Prop :=
  len ≤ 9223372036854775807 ∧ (len = 0 ∨ ∃ b off, a = some ⟨b, off, none⟩ ∧ b < w.heap.size ∧ ∀ j, j < len → w.cell? ⟨b, off + j, none⟩ = some (.bool (zs j)))
theorem app_all {ops : Array Oper} {rest : List Oper} {o : Oper} {a : Act} {Q : Exit → Act → World → Prop} {w0 wr : World} (hgd : o.guard = none) (s x : Operand)
    (ho : o.op = .call { callee := .builtin .append, args := #[s, x], argTypes := #[32, 32] }) (a0 : Option Addr) (len cap : Nat) (xs : List ByteArray) (hs : a.eval s = .slice none 0 0)
    (hx : a.eval x = .slice a0 len cap) (hcap : a0 = none → cap = 0) (hst : Hid (StrsAt wr a0 len xs)) (hlen : len ≤ 1000000) (hb : Hid (Below w0.heap.size w0 wr))
    (h : ∀ v' w', Hid (Own w0.heap.size v' xs w') → Hid (Below w0.heap.size w0 w') → wpList Tryz.prog ops Q rest (a.put o.dst v') w') :
    wpList Tryz.prog ops Q (o :: rest) a wr := by
  obtain ⟨i0, hi, hz0, hz1, hz2⟩ := info_parts Tryz.info9
  have hB : w0.heap.size ≤ wr.heap.size := hb.out.size
  obtain ⟨hl, hm, hc⟩ := hst.out
  cases a0 with
  | none =>
    have h0 : len = 0 := by
      rcases hc with hc | ⟨b, off, hc, _⟩
      · exact hc
      · cases hc
    have hxs : xs = [] := List.eq_nil_of_length_eq_zero (by omega)
    subst hxs
    have hcp := hcap rfl
    subst h0 hcp
    exact wpList_append_own_none hgd s x 32 ho w0.heap.size 9 i0 1 Tryz.underlying32 hi (.slice none 0 0) 0 [] hs (World.ownsRow_nil _ _ _ _) hx (h _ _ (own_nil _ _) hb)
  | some ad =>
    refine wpList_append_own _ hgd s x 32 ho w0.heap.size 9 i0 (.string .empty) 1 16 Tryz.underlying32 hi hz0 hz1 hz2 rfl (by decide) (.slice none 0 0) 0 [] hs (World.ownsRow_nil _ _ _ _) ad len cap (xs.map Value.string) hx (by simp [hl]) ?_ ?_ ?_ ?_ hB ?_
    · intro j u hj
      rcases hc with hc | ⟨b, off, hc, hb2, hcell⟩
      · have : xs = [] := List.eq_nil_of_length_eq_zero (by omega)
        subst this; simp at hj
      · cases hc
        have hjl : j < len := by
          rcases Nat.lt_or_ge j xs.length with h' | h'
          · omega
          · rw [List.getElem?_eq_none (by simpa using h')] at hj; cases hj
        have e := hcell j hjl
        rw [List.getElem?_map, List.getElem?_eq_getElem (by omega)] at hj
        rw [List.getD_eq_getElem?_getD, List.getElem?_eq_getElem (by omega)] at e
        simp at hj
        subst hj
        by_cases e0 : j = 0
        · subst e0; simpa [Addr.add] using e
        · simpa [Addr.add, e0] using e
    · intro u hu
      obtain ⟨t, _, rfl⟩ := List.mem_map.1 hu
      rfl
    · unfold maxLen; omega
    · omega
    · intro v' w' hown' hgrow _
      refine h v' w' ?_ ?_
      · show World.ownsRow _ _ _ _ _ _ _
        rw [List.nil_append, Nat.zero_add] at hown'
        rw [hl]
        exact hown'
      · exact hb.out.grown hgrow hB (fun k hk => by simp [Value.ownBlock] at hk)
theorem own_set {B g n cap k : Nat} {ys : List ByteArray} {w : World} (h : Own B (.slice (some ⟨g, 0, none⟩) n cap) ys w) (hk : k < ys.length) :
    w.cell? ⟨g, k, none⟩ = some (.string (Bk.rowAt ys k)) ∧ w.frozen? ⟨g, k, none⟩ = false ∧ B ≤ g ∧ Own B (.slice (some ⟨g, 0, none⟩) n cap) (ys.set k ⟨#[]⟩) (w.setCell ⟨g, k, none⟩ (.string ⟨#[]⟩)) := by
  rcases h.2 with ⟨hv, h0⟩ | ⟨g', cap', cur, hv, hg, hgb, hn, hm, hs, ht⟩
  · omega
  · cases hv
    have hcell : w.cell? ⟨g, k, none⟩ = some (.string (Bk.rowAt ys k)) := by
      rw [Lib.cell_of_heap hgb]
      have h2 : (cur.toList.take (ys.length * 1))[k]? = (ys.map Value.string)[k]? := by rw [ht]
      rw [List.getElem?_take_of_lt (by omega), Array.getElem?_toList] at h2
      rw [h2, List.getElem?_map, List.getElem?_eq_getElem hk]
      unfold Bk.rowAt
      rw [List.getD_eq_getElem?_getD, List.getElem?_eq_getElem hk]
      rfl
    refine ⟨hcell, Lib.frozen_of_heap hgb k, hg, ?_⟩
    have hb2 : (w.setCell ⟨g, k, none⟩ (.string ⟨#[]⟩)).heap[g]? = some (.cells (cur.set! k (.string ⟨#[]⟩)) 9 (0, 0)) := by
      simp [World.setCell, Array.getElem?_modify, hgb]
    refine ⟨by simp, .inr ⟨g, cap, cur.set! k (.string ⟨#[]⟩), ?_, hg, hb2, ?_, hm, ?_, ?_⟩⟩
    · rw [List.length_set]
    · rw [List.length_set]; exact hn
    · simpa using hs
    · rw [List.length_set]
      simp only [Array.set!_eq_setIfInBounds, Array.toList_setIfInBounds]
      rw [List.take_set, ht, List.map_set]
theorem strsAt_of {w : World} {x : Addr} {len cap : Nat} {ss : List ByteArray} (hz : ss.length = cap) (hl : len ≤ cap) (h20 : len ≤ 20)
    (hc : ∀ i, i < ss.length → w.cell? (x.add i) = some (.string (ss.getD i ByteArray.empty))) : StrsAt w (some x) len (ss.take len) := by
  refine ⟨by rw [List.length_take]; omega, by omega, ?_⟩
  by_cases h0 : len = 0
  · exact .inl h0
  · obtain ⟨b, off, spot⟩ := x
    have hc0 := hc 0 (by omega)
    have hspot : spot = none := by simpa [Addr.add] using World.cell?_spot hc0
    subst hspot
    refine .inr ⟨b, off, rfl, World.block_lt_of_cell? w _ hc0, fun j hj => ?_⟩
    have := hc j (by omega)
    have e2 : (ss.take len).getD j ByteArray.empty = ss.getD j ByteArray.empty := by
      rw [List.getD_eq_getElem?_getD, List.getD_eq_getElem?_getD, List.getElem?_take_of_lt hj]
    rw [e2]
    by_cases e : j = 0
    · subst e; simpa [Addr.add] using this
    · simpa [Addr.add, e] using this
theorem boolsAt_of {w : World} {x : Addr} {len cap : Nat} {B : Nat → Bool} (hl : len ≤ cap) (hm : cap ≤ maxLen)
    (hc : ∀ i, i < cap → w.cell? (x.add i) = some (.bool (B i))) : BoolsAt w (some x) len B := by
  refine ⟨by unfold maxLen at hm; omega, ?_⟩
  by_cases h0 : len = 0
  · exact .inl h0
  · obtain ⟨b, off, spot⟩ := x
    have hc0 := hc 0 (by omega)
    have hspot : spot = none := by simpa [Addr.add] using World.cell?_spot hc0
    subst hspot
    refine .inr ⟨b, off, rfl, World.block_lt_of_cell? w _ hc0, fun j hj => ?_⟩
    have := hc j (by omega)
    by_cases e : j = 0
    · subst e; simpa [Addr.add] using this
    · simpa [Addr.add, e] using this
namespace Bk
theorem row_set {ys : List ByteArray} {k M : Nat} (h : ∀ j, (rowAt ys j).size ≤ M) : ∀ j, (rowAt (ys.set k ⟨#[]⟩) j).size ≤ M := by
  intro j
  have hj := h j
  unfold rowAt at hj ⊢
  rw [List.getD_eq_getElem?_getD, List.getElem?_set]
  by_cases e : k = j
  · rw [if_pos e]
    by_cases e2 : k < ys.length
    · rw [if_pos e2]; exact Nat.zero_le _
    · rw [if_neg e2]; exact Nat.zero_le _
  · rw [if_neg e, ← List.getD_eq_getElem?_getD]; exact hj
theorem sumZ_small {ys : List ByteArray} {M : Nat} (h : ∀ j, (rowAt ys j).size ≤ M) : ∀ i, sumZ ys i ≤ (M + 1) * i
  | 0 => Nat.le_refl _
  | i + 1 => by
    have ih := sumZ_small h i
    have := h i
    show sumZ ys i + _ + 1 ≤ _
    rw [Nat.mul_succ]; omega
theorem longB_rows : ∀ (xs : List ByteArray) (n : Int), longB n (xs.map (·.size)) = false → ∀ j, j < xs.length → ((rowAt xs j).size : Int) < n
  | [], _, _, j, h => by simp at h
  | x :: xs, n, h, j, hj => by
    rw [List.map_cons, longB_cons] at h
    by_cases e : n ≤ (x.size : Int)
    · rw [if_pos e] at h; cases h
    · rw [if_neg e] at h
      cases j with
      | zero => show (x.size : Int) < n; omega
      | succ j =>
        have := longB_rows xs _ h j (by simpa using hj)
        have e2 : rowAt (x :: xs) (j + 1) = rowAt xs j := rfl
        rw [e2]; omega
end Bk
end Go.Proofs.YtlmjabnkjmfcmaaGreat
/- append of so many empty texts to a list of the call's own: laws of the operation, alone and in a region that draws its order. -/
namespace Go.Proofs.YtlmjabnkjmfcmaaGreat
open Go Go.RowKit Go.PlainAid
set_option linter.unusedVariables false
theorem zero_cells (k : Nat) : (Builtin.zeroCells #[Value.string ByteArray.empty] k).toList = List.replicate k (Value.string ByteArray.empty) := by
  apply List.ext_getElem?
  intro j
  simp only [Builtin.zeroCells, Array.toList_map, Array.toList_range, List.getElem?_map, List.getElem?_replicate]
  by_cases h : j < k
  · rw [if_pos h, List.getElem?_range (by simpa using h)]
    simp [Nat.mod_one]
  · rw [if_neg h, List.getElem?_eq_none (by simpa using h)]
    rfl
theorem run_zeros_own (B : Nat) (v : Value) (xs : List ByteArray) (w : World) (ty : TypeId) (k : Nat) (hown : Own B v xs w) (hn : xs.length + k ≤ 1000000) (hB : B ≤ w.heap.size) :
    ∃ v' w', (Builtin.append_ #[32, 3] ty #[v, .int .i64 k]).run Tryz.prog w = .ok v' w' ∧ Own B v' (xs ++ List.replicate k ByteArray.empty) w' ∧ w.grownBy w' v.ownBlock := by
  obtain ⟨i0, hi, hz0, hz1, hz2⟩ := info_parts Tryz.info9
  have hw : IntKind.i64.wrap (k : Int) = k := by rw [IntKind.wrap_i64]; omega
  have hneg : ¬ ((k : Int) < 0) := by omega
  have h48i : ¬ (281474976710656 < (k : Int) * 16) := by omega
  have hml : maxLen = 9223372036854775807 := rfl
  have hlen : ((xs ++ List.replicate k ByteArray.empty).map Value.string).length = (xs.length + k) * 1 := by simp
  have grown : ∀ (old : Nat), old < xs.length + k → ∀ (row : Option Nat),
      Own B (.slice (some ⟨w.heap.size, 0, none⟩) (xs.length + k) (grownCap w (xs.length + k) old 9)) (xs ++ List.replicate k ByteArray.empty)
        (w.drew.alloc (.cells ((xs.map Value.string).toArray ++ Builtin.zeroCells #[Value.string ByteArray.empty] k ++ Builtin.zeroCells #[Value.string ByteArray.empty] (grownCap w (xs.length + k) old 9 - (xs.length + k))) 9)) ∧
      w.grownBy (w.drew.alloc (.cells ((xs.map Value.string).toArray ++ Builtin.zeroCells #[Value.string ByteArray.empty] k ++ Builtin.zeroCells #[Value.string ByteArray.empty] (grownCap w (xs.length + k) old 9 - (xs.length + k))) 9)) row := by
    intro old ho row
    have hge := grownCap_ge w (xs.length + k) old 9
    have hcm : grownCap w (xs.length + k) old 9 ≤ maxLen := grownCap_le_maxLen w (xs.length + k) old 9 (by rw [hml]; omega)
    refine ⟨⟨by simp, .inr ⟨w.heap.size, grownCap w (xs.length + k) old 9, _, by rw [List.length_append, List.length_replicate], hB, heap_alloc_new w.drew _, ?_, hcm, ?_, ?_⟩⟩, ⟨rfl, rfl, rfl, by simp, fun j hj _ => heap_alloc_old w.drew _ hj⟩⟩
    · rw [List.length_append, List.length_replicate]; exact hge
    · simp only [Array.size_append, List.size_toArray, size_zeroCells, List.length_map]
      show xs.length + k * 1 + (_ - _) * 1 = _
      omega
    · simp only [Array.toList_append, List.append_assoc, zero_cells]
      rw [← List.append_assoc, List.length_append, List.length_replicate, List.map_append, List.map_replicate]
      exact List.take_left' (by simp)
  rcases hown.2 with ⟨rfl, hx⟩ | ⟨g, cap, cur, rfl, hbg, hg, hnc, hcm, hcs, htake⟩
  · have hx : xs = [] := List.eq_nil_of_length_eq_zero hx
    subst hx
    by_cases hk : k = 0
    · subst hk
      refine ⟨.slice none 0 0, w, ?_, own_nil _ _, ⟨rfl, rfl, rfl, Nat.le_refl _, fun _ _ _ => rfl⟩⟩
      simp [Builtin.append_, run_underlying Tryz.underlying32, run_underlying Tryz.underlying3, sizeOf, typeInfo, hi, hz2, asInt, asIntOf, IntKind.wrap_i64, Question.forced]
    · have hr := Lib.run_append_nil_zeros (P := Tryz.prog) w 32 3 ty 9 i0 (.string .empty) .i64 .i64 Tryz.underlying32 Tryz.underlying3 hi hz0 k (by omega) (by rw [hz1]; omega) (by omega) (by rw [hz2]; omega)
      have hgr := grown 0 (by simp; omega) (Value.ownBlock (.slice none 0 0))
      simp only [List.length_nil, Nat.zero_add, List.map_nil, List.nil_append, Array.empty_append] at hgr
      refine ⟨_, _, hr, ?_, ?_⟩
      · rw [List.nil_append]
        exact (by simpa using hgr.1 : Own B (.slice (some ⟨w.heap.size, 0, none⟩) k (grownCap w k 0 9)) (List.replicate k ByteArray.empty) (w.drew.alloc (.cells (Builtin.zeroCells #[Value.string ByteArray.empty] k ++ Builtin.zeroCells #[Value.string ByteArray.empty] (grownCap w k 0 9 - k)) 9)))
      · exact hgr.2
  · by_cases hroom : xs.length + k ≤ cap
    · have hst := run_storeCells_at Tryz.prog g (xs.length * 1) 9 (List.replicate k (Value.string ByteArray.empty)) 0 cur w hg (by simp; omega) (by intro u hu; rw [List.eq_of_mem_replicate hu]; rfl)
      simp only [Nat.add_zero, Nat.mul_one] at hst
      obtain ⟨c2, hc2⟩ : ∃ c2 : Array Value, c2 = (cur.toList.take xs.length ++ List.replicate k (Value.string ByteArray.empty) ++ cur.toList.drop (xs.length + k)).toArray := ⟨_, rfl⟩
      refine ⟨.slice (some ⟨g, 0, none⟩) (xs.length + k) cap, w.setRow g c2, ?_, ⟨by simp, .inr ⟨g, cap, c2, by rw [List.length_append, List.length_replicate], hbg, setRow_heap w g cur c2 9 _ hg, ?_, hcm, ?_, ?_⟩⟩, ⟨rfl, rfl, rfl, by simp, fun k _ hk => setRow_other w g k _ (fun e => hk (by simp [Value.ownBlock, e]))⟩⟩
      · subst hc2
        by_cases hk : k = 0
        · subst hk
          simp only [List.replicate_zero, List.append_nil, List.length_nil, Nat.add_zero] at hst ⊢
          have hst2 : (storeCells ⟨g, xs.length, none⟩ [] 0).run Tryz.prog w = .ok () (w.setRow g (cur.toList.take xs.length ++ cur.toList.drop xs.length).toArray) := hst
          simp at hroom
          simp [Builtin.append_, run_underlying Tryz.underlying32, run_underlying Tryz.underlying3, sizeOf, typeInfo, hi, hz2, asInt, asIntOf, IntKind.wrap_i64, Question.forced, hroom, Addr.add_lit, storeCells]
          rw [setRow_self w g cur 9 (0, 0) hg]
        · have hlr : (List.replicate k (Value.string ByteArray.empty)).length = k := by simp
          rw [hlr] at hst
          have hzc : (Builtin.zeroCells (Value.string ByteArray.empty).cells k).toList = List.replicate k (Value.string ByteArray.empty) := zero_cells k
          simp [Builtin.append_, run_underlying Tryz.underlying32, run_underlying Tryz.underlying3, sizeOf, typeInfo, zeroValue, hi, hz0, hz1, hz2, asInt, asIntOf, hw, hneg, h48i, hk, Question.forced, hroom, Addr.add_lit]
          rw [hzc, hst]
          simp
      · rw [List.length_append, List.length_replicate]; exact hroom
      · subst hc2; simp; omega
      · subst hc2
        rw [List.length_append, List.length_replicate, List.map_append, List.map_replicate]
        have ht2 : cur.toList.take xs.length = xs.map Value.string := by simpa using htake
        rw [ht2]
        simp only [Nat.mul_one]
        exact List.take_left' (by simp)
    · have hold := run_firstCells_some (P := Tryz.prog) w.drew i0.size xs.length ⟨g, 0, none⟩ xs.length cap (xs.map Value.string) (by rw [hz1]; simp) (fun j u hj => by
        have := hown.cells (g := g) rfl j u hj
        exact this)
      have hr := Lib.run_append_grow_zeros (P := Tryz.prog) w 32 3 ty 9 i0 (.string .empty) .i64 .i64 Tryz.underlying32 Tryz.underlying3 hi hz0 (some ⟨g, 0, none⟩) xs.length cap (xs.map Value.string) hold k (by omega) (by rw [hz1]; omega) (by omega) (by omega) (by rw [hz2]; omega) (growslice_fits (by omega) (by rw [hz2]; omega))
      have hgr := grown cap (by omega) (Value.ownBlock (.slice (some ⟨g, 0, none⟩) xs.length cap))
      exact ⟨_, _, hr, hgr.1, hgr.2⟩
/-- append of so many empty texts, as one step of a region that draws. -/
theorem step_zeros {ops : Array Oper} {o : Oper} {a : Act} {w0 wr : World} {K : Act → World → Prop} {Q : Exit → Act → World → Prop} {E : Prop}
    (hg : o.guard = none) (s x : Operand) (hop : o.op = Op.call { callee := Callee.builtin Builtin.append, args := #[s, x], argTypes := #[32, 3] })
    (v : Value) (xs : List ByteArray) (k : Nat) (hs : a.eval s = v) (hx : a.eval x = .int .i64 k) (hown : Hid (Own w0.heap.size v xs wr)) (hn : xs.length + k ≤ 1000000) (hb : Hid (Below w0.heap.size w0 wr))
    (hK : ∀ v' w', Hid (Own w0.heap.size v' (xs ++ List.replicate k ByteArray.empty) w') → Hid (Below w0.heap.size w0 w') → Hid (wr.grownBy w' v.ownBlock) → K (a.put o.dst v') w') :
    if Region.wanted o (yielded ops a.tmps) = true then Oper.wp Tryz.prog o a wr K Q else E := by
  have hw : Region.wanted o (yielded ops a.tmps) = true := by simp [Region.wanted, hg]
  rw [if_pos hw]
  obtain ⟨v', w', hr, h1, h2⟩ := run_zeros_own w0.heap.size v xs wr o.type k hown.out hn hb.out.size
  unfold Oper.wp execOp
  simp only [hop, resolve, invoke, builtin, Sem.run_bind, Sem.run_pure, Result.andThen_ok, List.map_toArray, List.map_cons, List.map_nil, hs, hx, hr]
  exact hK v' w' (Lib.hid h1) (Lib.hid (hb.out.grown h2 hb.out.size (fun k hk => (World.ownsRow.lt hown.out k hk).1))) (Lib.hid h2)
/-- append of one text that a block of the call's own holds, as one step of a region that draws. -/
theorem step_one {ops : Array Oper} {o : Oper} {a : Act} {w0 wr : World} {K : Act → World → Prop} {Q : Exit → Act → World → Prop} {E : Prop}
    (hg : o.guard = none) (s x : Operand) (hop : o.op = Op.call { callee := Callee.builtin Builtin.append, args := #[s, x], argTypes := #[32, 32] })
    (v : Value) (xs : List ByteArray) (t : ByteArray) (b : Nat) (hs : a.eval s = v) (hx : a.eval x = .slice (some ⟨b, 0, none⟩) 1 1) (hc : Hid (wr.cell? ⟨b, 0, none⟩ = some (.string t)))
    (hown : Hid (Own w0.heap.size v xs wr)) (hn : xs.length + 1 ≤ 1000000) (hb : Hid (Below w0.heap.size w0 wr))
    (hK : ∀ v' w', Hid (Own w0.heap.size v' (xs ++ [t]) w') → Hid (Below w0.heap.size w0 w') → K (a.put o.dst v') w') :
    if Region.wanted o (yielded ops a.tmps) = true then Oper.wp Tryz.prog o a wr K Q else E := by
  have hw : Region.wanted o (yielded ops a.tmps) = true := by simp [Region.wanted, hg]
  rw [if_pos hw]
  obtain ⟨i0, hi, hz0, hz1, hz2⟩ := info_parts Tryz.info9
  refine wp_append_own wr s x 32 hop w0.heap.size 9 i0 (.string .empty) 1 16 Tryz.underlying32 hi hz0 hz1 hz2 rfl (by decide) v xs.length (xs.map Value.string) hs hown.out ⟨b, 0, none⟩ 1 1 [.string t] hx rfl ?_ ?_ ?_ ?_ hb.out.size ?_
  · intro j u hj
    match j, hj with
    | 0, hj => simp at hj; subst hj; simpa [Addr.add] using hc.out
    | j + 1, hj => simp at hj
  · intro u hu; simp at hu; subst hu; rfl
  · unfold maxLen; omega
  · omega
  · intro v' w' hown' hgrow _
    refine hK v' w' (Lib.hid ?_) (Lib.hid (hb.out.grown hgrow hb.out.size (fun k hk => (World.ownsRow.lt hown.out k hk).1)))
    show World.ownsRow _ _ _ _ _ _ _
    rw [List.length_append, List.map_append]
    exact hown'
end Go.Proofs.YtlmjabnkjmfcmaaGreat
/- Read of package plai: contract. -/
namespace Go.Proofs.YtlmjabnkjmfcmaaGreat
open Go Go.RowKit Go.PlainAid
set_option linter.unusedVariables false
theorem own_lit (B : Nat) (t : ByteArray) (w : World) (hB : B ≤ w.heap.size) : Own B (.slice (some ⟨w.heap.size, 0, none⟩) 1 1) [t] (w.alloc (.cells #[.string t] 9)) :=
  ⟨rfl, .inr ⟨w.heap.size, 1, #[.string t], rfl, hB, heap_alloc_new w _, Nat.le_refl _, by decide, rfl, rfl⟩⟩
theorem cell_new (w : World) (t : ByteArray) : (w.alloc (.cells #[.string t] 9)).cell? ⟨w.heap.size, 0, none⟩ = some (.string t) := by
  rw [World.cell?_alloc_new]; rfl
theorem cell_kept {B : Nat} {v : Value} {xs : List ByteArray} {w w' : World} {t : ByteArray} (h : Own B v xs w) (hg : (w.alloc (.cells #[.string t] 9)).drew.grownBy w' v.ownBlock) : w'.cell? ⟨w.heap.size, 0, none⟩ = some (.string t) :=
  hg.cell (show (w.alloc (.cells #[.string t] 9)).drew.cell? _ = _ from cell_new w t) (fun e => by have := (World.ownsRow.lt h w.heap.size e.symm).2; omega)
theorem ret_read {x : ByteArray × Nat × Bool × Int} {t : ByteArray} {a : Int} {b : Bool} {c : Int} (h1 : t = x.1) (h2 : a = x.2.1) (h3 : b = x.2.2.1) (h4 : c = x.2.2.2) :
    Ending.returned (.tuple #[.string t, .int .i64 a, .bool b, .int .i64 c]) = .returned (.tuple #[.string x.1, .int .i64 (x.2.1 : Nat), .bool x.2.2.1, .int .i64 x.2.2.2]) := by rw [h1, h2, h3, h4]
namespace Bk
/-- What reading has come to: the list, and what is left to read. -/
def Rd (s : ByteArray) (n : Int) (fl : Bool) (R : Nat × List ByteArray × Bool) (e : Nat) (l : List ByteArray) (o : Bool) : Prop :=
  (∃ f, R = readL s n fl f e l o ∧ s.size - e < f) ∧ sumA l ≤ e + 1 ∧ e ≤ s.size ∧ 0 < l.length
theorem rd_end {s : ByteArray} {n : Int} {fl : Bool} {R : Nat × List ByteArray × Bool} {e : Nat} {l : List ByteArray} {o : Bool} (h : Rd s n fl R e l o) (hn : (nextS s e n fl).2.2 = false) : R = (e, l, o) := by
  obtain ⟨⟨f, h1, _⟩, _⟩ := h
  rw [h1, readL_no hn]
theorem rd_next {s : ByteArray} {n : Int} {fl : Bool} {R : Nat × List ByteArray × Bool} {e : Nat} {l : List ByteArray} {o : Bool} (h : Rd s n fl R e l o) (hn : (nextS s e n fl).2.2 = true) :
    Rd s n fl R (partN s (nextS s e n fl).1 fl) (l ++ List.replicate (nextS s e n fl).2.1 ByteArray.empty ++ [s.extract (nextS s e n fl).1 (partN s (nextS s e n fl).1 fl)]) false := by
  obtain ⟨⟨f, h1, h2⟩, h3, h4, h5⟩ := h
  obtain ⟨f', h6, h7⟩ := readL_yes (l := l) (o := o) h4 hn h2
  have hi := next_is h4 hn
  refine ⟨⟨f', h1.trans h6, h7⟩, ?_, hi.2.2.1, by simp; omega⟩
  rw [sumA_app, sumA_app, sumA_rep, sumA_one, size_ext _ _ _ hi.2.2.1]
  omega
theorem rd_start {s : ByteArray} {k : Nat} {n : Int} {fl : Bool} (hk : k ≤ s.size) : Rd s n fl (readL s n fl (s.size + 1) (partN s k fl) [s.extract k (partN s k fl)] true) (partN s k fl) [s.extract k (partN s k fl)] true := by
  have h1 := partN_ge s k fl
  have h2 := partN_le s k fl
  have h3 := toN_le hk
  refine ⟨⟨s.size + 1, rfl, by omega⟩, ?_, by omega, by simp⟩
  rw [sumA_one, size_ext _ _ _ (by omega)]
  omega
end Bk
end Go.Proofs.YtlmjabnkjmfcmaaGreat
/- The reference's Plain: what its loop leans on. Plain. -/
namespace Go.Proofs.YtlmjabnkjmfcmaaGreat
open Go Go.RowKit Go.PlainAid
set_option linter.unusedVariables false
namespace Bk
/-- What stands behind blank rows. -/
def nextT (s : ByteArray) (n : Int) (fl : Bool) (t b : Nat) : Nat × Nat × Bool :=
  if t < s.size ∧ kindN s (t + 1) = 5 then (firstN s (t + 1) s.size, b, decide (n < inN s (t + 1)) && decide (firstN s (t + 1) s.size < partN s (firstN s (t + 1) s.size) fl)) else (0, 0, false)
theorem next_no {s : ByteArray} {k : Nat} {n : Int} {fl : Bool} (h : firstN s k s.size < toN s k) : (nextS s k n fl).2.2 = false := by rw [nextS, if_pos h]
theorem next_T {s : ByteArray} {k : Nat} {n : Int} {fl : Bool} (h : ¬ firstN s k s.size < toN s k) : nextS s k n fl = nextT s n fl (skipN s (s.size + 1) (toN s k) 0).1 (skipN s (s.size + 1) (toN s k) 0).2 := by
  rw [nextS, if_neg h]; rfl
theorem part_self {s : ByteArray} {k : Nat} {fl : Bool} (h : s.size ≤ k) : partN s k fl = k := by rw [partN, if_pos h]
/-- Nothing more stands there. -/
theorem nextT_out {s : ByteArray} {n : Int} {fl : Bool} {f t b : Nat} (ht : s.size ≤ t + 1) (ht' : t ≤ s.size) : (nextT s n fl (skipN s f t b).1 (skipN s f t b).2).2.2 = false := by
  have hlast : ∀ b, (nextT s n fl t b).2.2 = false := by
    intro b
    unfold nextT
    split
    · rename_i h
      have e : t + 1 = s.size := by omega
      have e2 : firstN s (t + 1) s.size = s.size := by
        have h1 := firstN_ge s (t + 1) s.size
        have h2 := firstN_le (s := s) (k := t + 1) (m := s.size) (by omega)
        omega
      show (_ && _) = false
      rw [e2, part_self (Nat.le_refl _), decide_eq_false (Nat.lt_irrefl _), Bool.and_false]
    · rfl
  have hout : ∀ b, (nextT s n fl s.size b).2.2 = false := by
    intro b
    rw [nextT, if_neg (fun h => Nat.lt_irrefl _ h.1)]
  cases f with
  | zero => exact hlast b
  | succ f =>
    unfold skipN
    split
    · rename_i h
      have e : t + 1 = s.size := by omega
      have e2 : toN s (t + 1) = s.size := by
        have h1 := toN_ge s (t + 1)
        have h2 := toN_le (s := s) (k := t + 1) (by omega)
        omega
      rw [e2, skipN_no (fun h => Nat.lt_irrefl _ h.1)]
      exact hout _
    · exact hlast b
theorem nextT_kind {s : ByteArray} {n : Int} {fl : Bool} {t b : Nat} (h : kindN s (t + 1) ≠ 5) : (nextT s n fl t b).2.2 = false := by
  rw [nextT, if_neg (fun h2 => h h2.2)]
theorem nextT_in {s : ByteArray} {n : Int} {fl : Bool} {t b : Nat} (h : (inN s (t + 1) : Int) ≤ n) : (nextT s n fl t b).2.2 = false := by
  unfold nextT
  split
  · show (_ && _) = false
    rw [decide_eq_false (by omega), Bool.false_and]
  · rfl
theorem nextT_part {s : ByteArray} {n : Int} {fl : Bool} {t b : Nat} (h : partN s (firstN s (t + 1) s.size) fl = firstN s (t + 1) s.size) : (nextT s n fl t b).2.2 = false := by
  unfold nextT
  split
  · show (_ && _) = false
    rw [h, decide_eq_false (Nat.lt_irrefl _), Bool.and_false]
  · rfl
theorem nextT_yes {s : ByteArray} {n : Int} {fl : Bool} {t b : Nat} (h1 : t < s.size) (h2 : kindN s (t + 1) = 5) (h3 : n < (inN s (t + 1) : Int)) (h4 : partN s (firstN s (t + 1) s.size) fl ≠ firstN s (t + 1) s.size) :
    nextT s n fl t b = (firstN s (t + 1) s.size, b, true) := by
  have := partN_ge s (firstN s (t + 1) s.size) fl
  rw [nextT, if_pos ⟨h1, h2⟩, decide_eq_true h3, decide_eq_true (by omega)]; rfl
/-- The colon behind a part, told within its row. -/
theorem colon_row {s : ByteArray} {q m : Nat} (hq : q ≤ s.size) (hm : toN s q = m) : colonB s q = (decide (firstN s q m < m) && bt s (firstN s q m) == 58 && endsB s ((firstN s q m : Nat) + 1)) := by
  subst hm
  have h1 := toN_le hq
  have h2 := firstN_le (s := s) (k := q) (m := toN s q) (toN_ge s q)
  unfold colonB stopsB
  rw [firstN_row hq, Bool.false_and, Bool.or_false]
  by_cases h : firstN s q (toN s q) < toN s q
  · rw [decide_eq_true h, decide_eq_true (by omega)]
  · rw [decide_eq_false h]
    have e : firstN s q (toN s q) = toN s q := by omega
    by_cases h3 : toN s q < s.size
    · have h10 := toN_end h3
      rw [e, h10]; simp
    · rw [e, decide_eq_false h3]
end Bk
end Go.Proofs.YtlmjabnkjmfcmaaGreat
/- The reference's Plain: contract. -/
namespace Go.Proofs.YtlmjabnkjmfcmaaGreat
open Go Go.RowKit Go.PlainAid
set_option linter.unusedVariables false
namespace Bk
theorem readS_done {s : ByteArray} {k : Nat} {n : Int} {fl : Bool} {e : Nat} {l : List ByteArray} {o : Bool} (hB : beginsB s k fl = true)
    (h : Rd s n fl (readL s n fl (s.size + 1) (partN s k fl) [s.extract k (partN s k fl)] true) e l o) (hn : (nextS s e n fl).2.2 = false) (hc : o = true ∨ fl = true ∨ colonB s e = false) :
    readS s k n fl = (foldFlow l, e, o, 0) := by
  rw [readS, if_pos hB, rd_end h hn]
  show (if (!fl && !o && colonB s e) = true then _ else _) = _
  rw [if_neg]
  rcases hc with rfl | rfl | hc
  · simp
  · simp
  · rw [hc]; simp
theorem readS_colon {s : ByteArray} {k : Nat} {n : Int} {e : Nat} {l : List ByteArray} (hB : beginsB s k false = true)
    (h : Rd s n false (readL s n false (s.size + 1) (partN s k false) [s.extract k (partN s k false)] true) e l false) (hc : colonB s e = true) :
    readS s k n false = (ByteArray.empty, firstN s e s.size, false, 5) := by
  have hes : e ≤ s.size := h.2.2.1
  have hn : (nextS s e n false).2.2 = false := by
    refine next_no ?_
    rw [firstN_row hes]
    have h2 := colon_row hes (rfl : toN s e = toN s e)
    rw [hc] at h2
    have h3 := h2.symm
    simp only [Bool.and_eq_true, decide_eq_true_eq] at h3
    exact h3.1.1
  rw [readS, if_pos hB, rd_end h hn]
  show (if (!false && !false && colonB s e) = true then _ else _) = _
  rw [hc]; rfl
theorem rep_cons {l : List ByteArray} {j : Nat} : l ++ List.replicate j ByteArray.empty ++ [⟨#[]⟩] = l ++ List.replicate (j + 1) ByteArray.empty := by
  rw [List.replicate_succ', List.append_assoc]; rfl
end Bk
set_option maxRecDepth 20000 in
set_option maxHeartbeats 12800000 in
theorem plain84_any (s : ByteArray) (k : Nat) (n : Int) (fl : Bool) (w : World) (hs : s.size ≤ 900000) (hk : k ≤ s.size) :
    Calls Tryz.prog 136 #[.string s, .int .i64 k, .int .i64 n, .bool fl] w fun e w' => e = .returned (.tuple #[.string (Bk.readS s k n fl).1, .int .i64 ((Bk.readS s k n fl).2.1 : Nat), .bool (Bk.readS s k n fl).2.2.1, .int .i64 (Bk.readS s k n fl).2.2.2]) ∧ Below w.heap.size w w' := by
  have hb := get_bt s
  have h1 := Bk.partN_ge s k fl
  have h2 := Bk.partN_le s k fl
  have h3 := Bk.toN_le hk
  cases hB : Bk.beginsB s k fl with
  | false =>
    have HE : Hid (Bk.readS s k n fl = (ByteArray.empty, k, false, 5)) := Lib.hid (by rw [Bk.readS, if_neg (by rw [hB]; decide)])
    have HB := Lib.hid hB
    go_enter Tryz.func136, Tryz.ntmps136
    go_wp2_with (go_at_call 129; refine (rbegins_any s _ fl _ (by omega) (by omega)).mono ?_; rintro e w' ⟨rfl, rfl⟩; rw [Int.toNat_natCast, HB.out])
    refine bodyPost_ret (v := .tuple #[.string ByteArray.empty, .int .i64 k, .bool false, .int .i64 5]) (by simp [results, Tryz.results136, go_sem]; try rfl) rfl ⟨by rw [HE.out], Below.refl _ _⟩
  | true =>
    have HR := Lib.hid (Bk.rd_start (n := n) (fl := fl) hk)
    have HD := Lib.hid (fun e l o => Bk.readS_done (n := n) (e := e) (l := l) (o := o) hB)
    have HCo : Hid (fl = false → ∀ (e : Nat) (l : List ByteArray), Bk.Rd s n fl (Bk.readL s n fl (s.size + 1) (Bk.partN s k fl) [s.extract k (Bk.partN s k fl)] true) e l false → Bk.colonB s e = true → Bk.readS s k n fl = (ByteArray.empty, Bk.firstN s e s.size, false, 5)) :=
      Lib.hid (fun h e l h2 h3 => by subst h; exact Bk.readS_colon hB h2 h3)
    obtain ⟨R, hR⟩ : ∃ R, R = Bk.readL s n fl (s.size + 1) (Bk.partN s k fl) [s.extract k (Bk.partN s k fl)] true := ⟨_, rfl⟩
    rw [← hR] at HR HD HCo
    clear hR
    have HB := Lib.hid hB
    clear hB
    obtain ⟨e0, he0⟩ : ∃ e0, e0 = Bk.partN s k fl := ⟨_, rfl⟩
    rw [← he0] at HR h1 h2
    have HE0 := Lib.hid he0
    clear he0
    go_enter Tryz.func136, Tryz.ntmps136
    go_wp2_with first
      | (go_at_call 129; refine (rbegins_any s _ fl _ (by omega) (by omega)).mono ?_; rintro e w' ⟨rfl, rfl⟩; rw [Int.toNat_natCast, HB.out])
      | (go_at_call 130; refine (rpart_any s _ fl _ (by omega) (by omega)).mono ?_; rintro e w1 ⟨rfl, rfl⟩; rw [Int.toNat_natCast, ← HE0.out])
    have K2 := Lib.hid ((Below.refl w.heap.size w).alloc (Nat.le_refl _) (.cells #[.string (s.extract k e0)] 9))
    have O1 := Lib.hid (own_lit w.heap.size (s.extract k e0) w (Nat.le_refl _))
    go_loopw [12, 13, 14] (fun ev v ov wr => ∃ (e : Nat) (l : List ByteArray) (o : Bool), ev = .int .i64 e ∧ ov = .bool o ∧ e ≤ s.size ∧ Hid (Bk.Rd s n fl R e l o) ∧ Hid (o = true ∨ fl = true ∨ Bk.colonB s e = false) ∧ Hid (Own w.heap.size v l wr) ∧ Hid (Below w.heap.size w wr)) (fun ev _ _ _ => s.size - (intOf ev).toNat)
    case atStart => exact ⟨e0, _, true, rfl, rfl, by omega, HR, Lib.hid (.inl rfl), O1, K2⟩
    case round =>
      obtain ⟨e, l, o, rfl, rfl, hes, H, HC, HO, HW⟩ := hrel
      have HK := Lib.hid (Bk.heldN_nat (s := s) (k := e) hes)
      have hm := Bk.toN_le hes
      have hm0 := Bk.toN_ge s e
      have hex : (Bk.nextS s e n fl).2.2 = false → Hid (Bk.readS s k n fl = (Bk.foldFlow l, e, o, 0)) := fun h => Lib.hid (HD.out e l o H.out h HC.out)
      have HX := Lib.hid hex
      clear hex
      have hz : Bk.sumA l ≤ e + 1 := H.out.2.1
      have hlz := Bk.len_sumA l
      have hll : l.length ≤ 900001 := by omega
      have HZ : Hid (Bk.sumZ l l.length ≤ 140737488355328) := Lib.hid (by have h : Bk.sumZ l l.length = Bk.sumA l := rfl; omega)
      clear hz hlz
      obtain ⟨m, hmq⟩ : ∃ m, m = Bk.toN s e := ⟨_, rfl⟩
      rw [← hmq] at hm hm0
      have HM := Lib.hid hmq
      clear hmq
      have HR1 : Hid (Bk.firstN s e s.size = Bk.firstN s e m) := Lib.hid (by rw [HM.out]; exact Bk.firstN_row hes)
      by_cases hf : Bk.firstN s e m < m
      · have HF := HX.out (Bk.next_no (by rw [HR1.out, ← HM.out]; exact hf))
        obtain ⟨ad, cp, hv, hst, hcap⟩ := own_strs HO.out (by omega)
        subst hv
        have HST := Lib.hid hst
        clear hst hcap
        go_wp2_with first
          | (go_at_call 32; refine (rrow_any s _ _ (by omega)).mono ?_; rintro e1 w2 ⟨rfl, rfl⟩; rw [HK.out, ← HM.out])
          | (go_at_call 33; refine (rfirst_any s e m _ (by omega) hm).mono ?_; rintro e1 w2 ⟨rfl, rfl⟩)
          | (go_at_call 147; refine (rflow56_any _ _ _ l _ HST.out HZ.out).mono ?_; rintro e1 w2 ⟨rfl, hg⟩; replace HW := Lib.hid (HW.out.trans (hg.mono HW.out.size)); clear hg)
        refine bodyPost_ret (v := .tuple #[.string (Bk.foldFlow l), .int .i64 e, .bool o, .int .i64 0]) (by simp [results, Tryz.results136, go_sem]; try rfl) rfl ⟨by rw [HF.out], HW.out⟩
      · have HT : Hid (Bk.nextS s e n fl = Bk.nextT s n fl (Bk.skipN s (s.size + 1) m 0).1 (Bk.skipN s (s.size + 1) m 0).2) := Lib.hid (by rw [HM.out]; exact Bk.next_T (by rw [HR1.out, ← HM.out]; exact hf))
        by_cases hms : m < s.size
        · have hd1 : decide (Bk.firstN s e m < m) = false := decide_eq_false hf
          have hd2 : decide (s.size ≤ m) = false := decide_eq_false (by omega)
          go_wp2_with first
            | (go_at_call 32; refine (rrow_any s _ _ (by omega)).mono ?_; rintro e1 w2 ⟨rfl, rfl⟩; rw [HK.out, ← HM.out])
            | (go_at_call 33; refine (rfirst_any s e m _ (by omega) hm).mono ?_; rintro e1 w2 ⟨rfl, rfl⟩)
          obtain ⟨wo, hwo⟩ : ∃ wo : World, wo = wr := ⟨_, rfl⟩
          subst hwo
          go_loop [16, 17, 18] (fun tv bl fr => ∃ t b f : Nat, t ≤ s.size ∧ tv = .int .i64 t ∧ bl = .int .i64 b ∧ fr = .int .i64 ((t + 1 : Nat) : Int) ∧ b ≤ t + 1 ∧ e + b ≤ t ∧ Hid (Bk.skipN s (s.size + 1) m 0 = Bk.skipN s f t b ∧ s.size - t < f)) (fun tv _ _ => s.size - (intOf tv).toNat)
          case atStart => exact ⟨m, 0, s.size + 1, hm, rfl, rfl, by go_num, by omega, by omega, Lib.hid ⟨rfl, by omega⟩⟩
          case round =>
            obtain ⟨t, b, f, hts, rfl, rfl, rfl, hbt, heb, HS⟩ := hrel
            by_cases hin : t + 1 < s.size
            · have HN : Hid (Bk.heldN s ((t : Int) + 1) = t + 1) := Lib.hid (Bk.heldN_nat (s := s) (k := t + 1) (by omega))
              have hg2 := Bk.toN_ge s (t + 1)
              have hm2 := Bk.toN_le (s := s) (k := t + 1) (by omega)
              obtain ⟨m2, hm2q⟩ : ∃ m2, m2 = Bk.toN s (t + 1) := ⟨_, rfl⟩
              rw [← hm2q] at hg2 hm2
              have HM2 := Lib.hid hm2q
              clear hm2q
              obtain ⟨K, hK⟩ : ∃ K, K = Bk.kindN s (t + 1) := ⟨_, rfl⟩
              have HKK := Lib.hid hK
              clear hK
              by_cases hK1 : K = 1
              · have HY := Lib.hid (Bk.skipN_yes (b := b) (by omega : t < s.size) (by rw [← HKK.out]; exact hK1) HS.out.2)
                subst hK1
                go_wp2_with first
                  | (go_at_call 30; refine (rkind_any s _ _ (by omega)).mono ?_; rintro e1 w2 ⟨rfl, rfl⟩; rw [HN.out, ← HKK.out])
                  | (go_at_call 32; refine (rrow_any s _ _ (by omega)).mono ?_; rintro e1 w2 ⟨rfl, rfl⟩; rw [HN.out, ← HM2.out])
                go_round
                case rel =>
                  obtain ⟨f', h1, h2⟩ := HY.out
                  rw [← HM2.out] at h1 h2
                  exact ⟨m2, b + 1, f', hm2, rfl, by go_num, by go_num, by omega, by omega, Lib.hid ⟨HS.out.1.trans h1, h2⟩⟩
                case measure => simp [intOf]; omega
              · have HNo : Hid (Bk.nextS s e n fl = Bk.nextT s n fl t b) := Lib.hid (by
                  rw [HT.out, HS.out.1, Bk.skipN_no (f := f) (b := b) (show ¬ (t < s.size ∧ Bk.kindN s (t + 1) = 1) from fun h => hK1 (HKK.out.trans h.2))])
                have b1 : (K == 1) = false := by simpa using hK1
                clear hK1
                obtain ⟨p, hp⟩ : ∃ p, p = Bk.firstN s (t + 1) m2 := ⟨_, rfl⟩
                have hp1 := Bk.firstN_ge s (t + 1) m2
                have hp2 := Bk.firstN_le (s := s) (k := t + 1) (m := m2) hg2
                have hp3 : Bk.firstN s (t + 1) s.size = Bk.firstN s (t + 1) m2 := by rw [HM2.out]; exact Bk.firstN_row (by omega)
                rw [← hp] at hp1 hp2 hp3
                have HP := Lib.hid hp
                have HP3 := Lib.hid hp3
                clear hp hp3
                obtain ⟨q, hq⟩ : ∃ q, q = Bk.partN s p fl := ⟨_, rfl⟩
                have hq1 := Bk.partN_ge s p fl
                have hq2 := Bk.partN_le s p fl
                have hq3 : Bk.toN s p = m2 := by rw [HM2.out]; exact Bk.toN_from hp1 (by rw [← HM2.out]; exact hp2) (by omega)
                rw [← hq] at hq1 hq2
                rw [hq3] at hq2
                have HQ := Lib.hid hq
                have HQ3 := Lib.hid hq3
                clear hq hq3
                by_cases hK5 : K = 5
                · have b5 : (K != 5) = false := by simp [hK5]
                  by_cases hn : (Bk.inN s (t + 1) : Int) ≤ n
                  · have HF := HX.out (by rw [HNo.out]; exact Bk.nextT_in hn)
                    subst hK5
                    obtain ⟨ad, cp, hv, hst, hcap⟩ := own_strs HO.out (by omega)
                    subst hv
                    have HST := Lib.hid hst
                    clear hst hcap
                    go_wp2_with first
                      | (go_at_call 30; refine (rkind_any s _ _ (by omega)).mono ?_; rintro e1 w2 ⟨rfl, rfl⟩; rw [HN.out, ← HKK.out])
                      | (go_at_call 88; refine (rin_any s _ _ (by omega)).mono ?_; rintro e1 w2 ⟨rfl, rfl⟩; rw [HN.out])
                      | (go_at_call 32; refine (rrow_any s _ _ (by omega)).mono ?_; rintro e1 w2 ⟨rfl, rfl⟩; rw [HN.out, ← HM2.out])
                      | (go_at_call 33; refine (rfirst_any s (t + 1) m2 _ (by omega) hm2).mono ?_; rintro e1 w2 ⟨rfl, rfl⟩; rw [← HP.out])
                      | (go_at_call 130; refine (rpart_any s _ fl _ (by omega) (by omega)).mono ?_; rintro e1 w2 ⟨rfl, rfl⟩; rw [Int.toNat_natCast, ← HQ.out])
                      | (go_at_call 147; refine (rflow56_any _ _ _ l _ HST.out HZ.out).mono ?_; rintro e1 w2 ⟨rfl, hg⟩; replace HW := Lib.hid (HW.out.trans (hg.mono HW.out.size)); clear hg)
                    refine bodyPost_ret (v := .tuple #[.string (Bk.foldFlow l), .int .i64 e, .bool o, .int .i64 0]) (by simp [results, Tryz.results136, go_sem]; try rfl) rfl ⟨by rw [HF.out], HW.out⟩
                  · by_cases hqp : q = p
                    · have HF := HX.out (by rw [HNo.out]; exact Bk.nextT_part (by rw [HP3.out, ← HQ.out]; exact hqp))
                      have bq : ((q : Int) == (p : Int)) = true := by simp [hqp]
                      subst hK5
                      clear hqp
                      obtain ⟨ad, cp, hv, hst, hcap⟩ := own_strs HO.out (by omega)
                      subst hv
                      have HST := Lib.hid hst
                      clear hst hcap
                      go_wp2_with first
                        | (go_at_call 30; refine (rkind_any s _ _ (by omega)).mono ?_; rintro e1 w2 ⟨rfl, rfl⟩; rw [HN.out, ← HKK.out])
                        | (go_at_call 88; refine (rin_any s _ _ (by omega)).mono ?_; rintro e1 w2 ⟨rfl, rfl⟩; rw [HN.out])
                        | (go_at_call 32; refine (rrow_any s _ _ (by omega)).mono ?_; rintro e1 w2 ⟨rfl, rfl⟩; rw [HN.out, ← HM2.out])
                        | (go_at_call 33; refine (rfirst_any s (t + 1) m2 _ (by omega) hm2).mono ?_; rintro e1 w2 ⟨rfl, rfl⟩; rw [← HP.out])
                        | (go_at_call 130; refine (rpart_any s _ fl _ (by omega) (by omega)).mono ?_; rintro e1 w2 ⟨rfl, rfl⟩; rw [Int.toNat_natCast, ← HQ.out])
                        | (go_at_call 147; refine (rflow56_any _ _ _ l _ HST.out HZ.out).mono ?_; rintro e1 w2 ⟨rfl, hg⟩; replace HW := Lib.hid (HW.out.trans (hg.mono HW.out.size)); clear hg)
                      refine bodyPost_ret (v := .tuple #[.string (Bk.foldFlow l), .int .i64 e, .bool o, .int .i64 0]) (by simp [results, Tryz.results136, go_sem]; try rfl) rfl ⟨by rw [HF.out], HW.out⟩
                    · have bq : ((q : Int) == (p : Int)) = false := by simp; omega
                      have hnx := Bk.nextT_yes (b := b) (by omega : t < s.size) (by rw [← HKK.out]; exact hK5) (by omega : n < (Bk.inN s (t + 1) : Int)) (by rw [HP3.out, ← HQ.out]; exact hqp)
                      rw [← HNo.out, HP3.out] at hnx
                      have HNX := Lib.hid hnx
                      clear hnx
                      have hrd := Bk.rd_next H.out (by rw [HNX.out])
                      rw [HNX.out] at hrd
                      simp only at hrd
                      rw [← HQ.out] at hrd
                      have HR2 := Lib.hid hrd
                      clear hrd
                      subst hK5
                      have hd3 : decide ((s.size : Int) ≤ (t : Int) + 1) = false := decide_eq_false (by omega)
                      have hd4 : decide ((Bk.inN s (t + 1) : Int) ≤ n) = false := decide_eq_false (by omega)
                      have hll2 : l.length + b + 1 ≤ 1000000 := by
                        have h1 := HR2.out.2.1
                        have h2 := Bk.len_sumA (l ++ List.replicate b ByteArray.empty ++ [s.extract p q])
                        rw [List.length_append, List.length_append, List.length_replicate, List.length_singleton] at h2
                        omega
                      go_wp2_with first
                        | (go_at_call 30; refine (rkind_any s _ _ (by omega)).mono ?_; rintro e1 w2 ⟨rfl, rfl⟩; rw [HN.out, ← HKK.out])
                        | (go_at_call 88; refine (rin_any s _ _ (by omega)).mono ?_; rintro e1 w2 ⟨rfl, rfl⟩; rw [HN.out])
                        | (go_at_call 32; refine (rrow_any s _ _ (by omega)).mono ?_; rintro e1 w2 ⟨rfl, rfl⟩; rw [HN.out, ← HM2.out])
                        | (go_at_call 33; refine (rfirst_any s (t + 1) m2 _ (by omega) hm2).mono ?_; rintro e1 w2 ⟨rfl, rfl⟩; rw [← HP.out])
                        | (go_at_call 130; refine (rpart_any s _ fl _ (by omega) (by omega)).mono ?_; rintro e1 w2 ⟨rfl, rfl⟩; rw [Int.toNat_natCast, ← HQ.out])
                      have htq : Bk.toN s q = m2 := (Bk.toN_from hq1 (by rw [HQ3.out]; exact hq2) (by omega)).trans HQ3.out
                      have HCR := Lib.hid (Bk.colon_row (by omega : q ≤ s.size) htq)
                      have hfr : Bk.firstN s q s.size = Bk.firstN s q m2 := by rw [← htq]; exact Bk.firstN_row (by omega)
                      have HFR := Lib.hid hfr
                      clear hfr htq
                      have hc2 := Bk.firstN_le (s := s) (k := q) (m := m2) hq2
                      go_loopw [13, 21] (fun v i w2 => ∃ j : Nat, j ≤ b ∧ i = .int .i64 j ∧ Hid (Own w.heap.size v (l ++ List.replicate j ByteArray.empty) w2) ∧ Hid (Below w.heap.size w w2)) (fun _ i _ => b - (intOf i).toNat)
                      case atStart => exact ⟨0, by omega, rfl, Lib.hid (by rw [List.replicate_zero, List.append_nil]; exact HO.out), HW⟩
                      case round =>
                        obtain ⟨j, hj, rfl, HO2, HW2⟩ := hrel
                        by_cases hjb : j < b
                        · go_wp2_with (at_builtin; refine app_one (w0 := w) rfl (.tmp 117) (.tmp 118) rfl _ _ ⟨#[]⟩ rfl rfl HO2 (by rw [List.length_append, List.length_replicate]; omega) HW2 ?_; intro v3 w3 HO3 HW3; replace HO3 := Lib.hid (Bk.rep_cons ▸ HO3.out))
                          go_roundw
                          case rel => exact ⟨j + 1, by omega, by go_num, HO3, HW3⟩
                          case measure => simp [intOf]; omega
                        · obtain rfl : j = b := by omega
                          obtain ⟨c, hcq⟩ : ∃ c, c = Bk.firstN s q m2 := ⟨_, rfl⟩
                          rw [← hcq] at hc2 HCR HFR
                          have HCQ := Lib.hid hcq
                          clear hcq
                          have hway : (fl = true ∨ (fl = false ∧ ¬ c < m2) ∨ (fl = false ∧ c < m2 ∧ (bt s c == 58) = false) ∨ (fl = false ∧ c < m2 ∧ (bt s c == 58) = true ∧ Bk.endsB s ((c : Int) + 1) = false)) ∨
                              (fl = false ∧ c < m2 ∧ (bt s c == 58) = true ∧ Bk.endsB s ((c : Int) + 1) = true) := by
                            cases fl with
                            | true => exact .inl (.inl rfl)
                            | false =>
                              by_cases h1 : c < m2
                              · cases h2 : (bt s c == 58) with
                                | false => exact .inl (.inr (.inr (.inl ⟨rfl, h1, rfl⟩)))
                                | true =>
                                  cases h3 : Bk.endsB s ((c : Int) + 1) with
                                  | false => exact .inl (.inr (.inr (.inr ⟨rfl, h1, rfl, rfl⟩)))
                                  | true => exact .inr ⟨rfl, h1, rfl, rfl⟩
                              · exact .inl (.inr (.inl ⟨rfl, h1⟩))
                          rcases hway with hway | ⟨rfl, h1, h2, h3⟩
                          · have HC3 : Hid (false = true ∨ fl = true ∨ Bk.colonB s q = false) := Lib.hid (by
                              rcases hway with h | ⟨_, h⟩ | ⟨_, h, h'⟩ | ⟨_, h, h', h''⟩
                              · exact .inr (.inl h)
                              · exact .inr (.inr (by rw [HCR.out, decide_eq_false h]; rfl))
                              · exact .inr (.inr (by rw [HCR.out, h']; simp))
                              · exact .inr (.inr (by rw [HCR.out, h'']; simp)))
                            rcases hway with rfl | ⟨rfl, h1⟩ | ⟨rfl, h1, h2⟩ | ⟨rfl, h1, h2, h3⟩
                            all_goals
                              go_wp2_with first
                                | (at_builtin; refine app_one (w0 := w) rfl (.tmp 120) (.tmp 125) rfl _ _ (s.extract p q) rfl rfl HO2 (by rw [List.length_append, List.length_replicate]; omega) HW2 ?_; intro v3 w3 HO3 HW3)
                                | (go_at_call 33; refine (rfirst_any s q m2 _ (by omega) hm2).mono ?_; rintro e1 w2 ⟨rfl, rfl⟩; rw [← HCQ.out])
                                | (go_at_call 61; refine (rends_any _ _ _).mono ?_; rintro e1 w2 ⟨rfl, rfl⟩)
                              go_roundw
                              case rel => exact ⟨q, _, false, rfl, rfl, by omega, HR2, HC3, HO3, HW3⟩
                              case measure => simp [intOf]; omega
                          · have HF := Lib.hid (HCo.out rfl q _ HR2.out (by rw [HCR.out, decide_eq_true h1, h2, h3]; rfl))
                            go_wp2_with first
                              | (at_builtin; refine app_one (w0 := w) rfl (.tmp 120) (.tmp 125) rfl _ _ (s.extract p q) rfl rfl HO2 (by rw [List.length_append, List.length_replicate]; omega) HW2 ?_; intro v3 w3 HO3 HW3)
                              | (go_at_call 33; refine (rfirst_any s q m2 _ (by omega) hm2).mono ?_; rintro e1 w2 ⟨rfl, rfl⟩; rw [← HCQ.out])
                              | (go_at_call 61; refine (rends_any _ _ _).mono ?_; rintro e1 w2 ⟨rfl, rfl⟩)
                            refine bodyPost_ret (v := .tuple #[.string ByteArray.empty, .int .i64 c, .bool false, .int .i64 5]) (by simp [results, Tryz.results136, go_sem]; try rfl) rfl ⟨by rw [HF.out, HFR.out], HW3.out⟩
                · have HF := HX.out (by rw [HNo.out]; exact Bk.nextT_kind (fun h => hK5 (HKK.out.trans h)))
                  have b5 : (K != 5) = true := by simpa using hK5
                  clear hK5
                  obtain ⟨ad, cp, hv, hst, hcap⟩ := own_strs HO.out (by omega)
                  subst hv
                  have HST := Lib.hid hst
                  clear hst hcap
                  go_wp2_with first
                    | (go_at_call 30; refine (rkind_any s _ _ (by omega)).mono ?_; rintro e1 w2 ⟨rfl, rfl⟩; rw [HN.out, ← HKK.out])
                    | (go_at_call 88; refine (rin_any s _ _ (by omega)).mono ?_; rintro e1 w2 ⟨rfl, rfl⟩; rw [HN.out])
                    | (go_at_call 32; refine (rrow_any s _ _ (by omega)).mono ?_; rintro e1 w2 ⟨rfl, rfl⟩; rw [HN.out, ← HM2.out])
                    | (go_at_call 33; refine (rfirst_any s (t + 1) m2 _ (by omega) hm2).mono ?_; rintro e1 w2 ⟨rfl, rfl⟩; rw [← HP.out])
                    | (go_at_call 130; refine (rpart_any s _ fl _ (by omega) (by omega)).mono ?_; rintro e1 w2 ⟨rfl, rfl⟩; rw [Int.toNat_natCast, ← HQ.out])
                    | (go_at_call 147; refine (rflow56_any _ _ _ l _ HST.out HZ.out).mono ?_; rintro e1 w2 ⟨rfl, hg⟩; replace HW := Lib.hid (HW.out.trans (hg.mono HW.out.size)); clear hg)
                  refine bodyPost_ret (v := .tuple #[.string (Bk.foldFlow l), .int .i64 e, .bool o, .int .i64 0]) (by simp [results, Tryz.results136, go_sem]; try rfl) rfl ⟨by rw [HF.out], HW.out⟩
            · have HF := HX.out (by rw [HT.out, HS.out.1]; exact Bk.nextT_out (by omega) hts)
              obtain ⟨ad, cp, hv, hst, hcap⟩ := own_strs HO.out (by omega)
              subst hv
              have HST := Lib.hid hst
              clear hst hcap
              go_wp2_with first
                | (go_at_call 147; refine (rflow56_any _ _ _ l _ HST.out HZ.out).mono ?_; rintro e1 w2 ⟨rfl, hg⟩; replace HW := Lib.hid (HW.out.trans (hg.mono HW.out.size)); clear hg)
              refine bodyPost_ret (v := .tuple #[.string (Bk.foldFlow l), .int .i64 e, .bool o, .int .i64 0]) (by simp [results, Tryz.results136, go_sem]; try rfl) rfl ⟨by rw [HF.out], HW.out⟩
        · have HF := HX.out (by rw [HT.out]; exact Bk.nextT_out (by omega) hm)
          obtain ⟨ad, cp, hv, hst, hcap⟩ := own_strs HO.out (by omega)
          subst hv
          have HST := Lib.hid hst
          clear hst hcap
          go_wp2_with first
            | (go_at_call 32; refine (rrow_any s _ _ (by omega)).mono ?_; rintro e1 w2 ⟨rfl, rfl⟩; rw [HK.out, ← HM.out])
            | (go_at_call 33; refine (rfirst_any s e m _ (by omega) hm).mono ?_; rintro e1 w2 ⟨rfl, rfl⟩)
            | (go_at_call 147; refine (rflow56_any _ _ _ l _ HST.out HZ.out).mono ?_; rintro e1 w2 ⟨rfl, hg⟩; replace HW := Lib.hid (HW.out.trans (hg.mono HW.out.size)); clear hg)
          refine bodyPost_ret (v := .tuple #[.string (Bk.foldFlow l), .int .i64 e, .bool o, .int .i64 0]) (by simp [results, Tryz.results136, go_sem]; try rfl) rfl ⟨by rw [HF.out], HW.out⟩
end Go.Proofs.YtlmjabnkjmfcmaaGreat
/- Cut, noteAt, tabIn of the references: contracts. -/
namespace Go.Proofs.YtlmjabnkjmfcmaaGreat
open Go Go.RowKit Go.PlainAid
set_option linter.unusedVariables false
namespace Bk
/-- A text without White at its end. -/
def cutN (s : ByteArray) : Nat := backP (fun i => whiteB (bt s i)) s.size
def cutS (s : ByteArray) : ByteArray := s.extract 0 (cutN s)
/-- Does a comment begin at a place? -/
def noteB (s : ByteArray) (p : Nat) : Bool := bt s p == 35 && (p == 0 || whiteB (bt s (p - 1)) || bt s (p - 1) == 10)
/-- The first tab of White at the beginning of a row; -1. -/
def tabL (s : ByteArray) (t : Nat) : Nat → Nat → Int
  | 0, _ => -1
  | f + 1, p => if p < t then (if whiteB (bt s p) = true then (if bt s p = 9 then (p : Int) else tabL s t f (p + 1)) else -1) else -1
def tabI (s : ByteArray) (p t : Nat) : Int := tabL s t (t - p) p
theorem tabL_range (s : ByteArray) (t : Nat) : ∀ f p, tabL s t f p = -1 ∨ ∃ k : Nat, tabL s t f p = k ∧ p ≤ k ∧ k < t
  | 0, p => .inl rfl
  | f + 1, p => by
    unfold tabL
    split
    · split
      · split
        · exact .inr ⟨p, rfl, Nat.le_refl _, by assumption⟩
        · rcases tabL_range s t f (p + 1) with h | ⟨k, h1, h2, h3⟩
          · exact .inl h
          · exact .inr ⟨k, h1, by omega, h3⟩
      · exact .inl rfl
    · exact .inl rfl
end Bk
set_option maxHeartbeats 800000 in
theorem cut_any (s : ByteArray) (w : World) (hs : s.size ≤ 1000000000) :
    Calls Tryz.prog 34 #[.string s] w fun e w' => e = .returned (.string (Bk.cutS s)) ∧ w = w' := by
  have hb := get_bt s
  have HC : Hid (Bk.cutN s = Bk.backP (fun i => Bk.whiteB (bt s i)) s.size) := Lib.hid rfl
  go_enter Tryz.func34, Tryz.ntmps34
  go_wp2_with fail
  go_loop [3] (fun n => ∃ k : Nat, k ≤ s.size ∧ n = .int .i64 k ∧ Hid (Bk.cutN s = Bk.backP (fun i => Bk.whiteB (bt s i)) k)) (fun n => (intOf n).toNat)
  case atStart => exact ⟨s.size, Nat.le_refl _, rfl, HC⟩
  case round =>
    obtain ⟨k, hk, rfl, H⟩ := hrel
    cases k with
    | zero =>
      have HE : Hid (Bk.cutS s = s.extract 0 0) := Lib.hid (by unfold Bk.cutS; rw [H.out]; rfl)
      go_wp2_with fail
      go_ret
      exact ⟨ret_str (by rw [HE.out]; simp), rfl⟩
    | succ k =>
      cases hq : Bk.whiteB (bt s k) with
      | true =>
        have H2 : Hid (Bk.cutN s = Bk.backP (fun i => Bk.whiteB (bt s i)) k) := Lib.hid (by rw [H.out, Bk.backP, if_pos hq])
        have HQ := Lib.hid hq
        go_wp2_with (go_at_call 63; refine (rwhite_any _ _).mono ?_; rintro e w' ⟨rfl, rfl⟩; rw [HQ.out])
        go_round
        case rel => exact ⟨k, by omega, by go_num, H2⟩
        case measure => simp [intOf]
      | false =>
        have HE : Hid (Bk.cutS s = s.extract 0 (k + 1)) := Lib.hid (by unfold Bk.cutS; rw [H.out, Bk.backP, if_neg (by rw [hq]; decide)])
        have HQ := Lib.hid hq
        go_wp2_with (go_at_call 63; refine (rwhite_any _ _).mono ?_; rintro e w' ⟨rfl, rfl⟩; rw [HQ.out])
        go_ret
        exact ⟨ret_str (by rw [HE.out]), rfl⟩
set_option maxHeartbeats 800000 in
theorem note_any (s : ByteArray) (p : Nat) (w : World) (hs : s.size ≤ 1000000000) (hp : p < s.size) :
    Calls Tryz.prog 89 #[.string s, .int .i64 p] w fun e w' => e = .returned (.bool (Bk.noteB s p)) ∧ w = w' := by
  have hb := get_bt s
  have HN : Hid (Bk.noteB s p = (bt s p == 35 && (p == 0 || Bk.whiteB (bt s (p - 1)) || bt s (p - 1) == 10))) := Lib.hid rfl
  cases q1 : (bt s p == 35) with
  | false =>
    have HE : Hid (Bk.noteB s p = false) := Lib.hid (by rw [HN.out, q1]; rfl)
    go_enter Tryz.func89, Tryz.ntmps89
    go_wp2_with fail
    go_ret
    exact ⟨ret_bool (by rw [HE.out]), rfl⟩
  | true =>
    cases p with
    | zero =>
      have HE : Hid (Bk.noteB s 0 = true) := Lib.hid (by rw [HN.out, q1]; rfl)
      go_enter Tryz.func89, Tryz.ntmps89
      go_wp2_with fail
      go_ret
      exact ⟨ret_bool (by rw [HE.out]), rfl⟩
    | succ k =>
      have HE : Hid (Bk.noteB s (k + 1) = (Bk.whiteB (bt s k) || bt s k == 10)) := Lib.hid (by rw [HN.out, q1]; simp)
      cases q2 : Bk.whiteB (bt s k) with
      | true =>
        have HQ := Lib.hid q2
        have HE2 : Hid (Bk.noteB s (k + 1) = true) := Lib.hid (by rw [HE.out, q2]; rfl)
        go_enter Tryz.func89, Tryz.ntmps89
        go_wp2_with (go_at_call 63; refine (rwhite_any _ _).mono ?_; rintro e w' ⟨rfl, rfl⟩; rw [HQ.out])
        go_ret
        exact ⟨ret_bool (by rw [HE2.out]), rfl⟩
      | false =>
        have HQ := Lib.hid q2
        cases q3 : (bt s k == 10) with
        | true =>
          have HE2 : Hid (Bk.noteB s (k + 1) = true) := Lib.hid (by rw [HE.out, q2, q3]; rfl)
          go_enter Tryz.func89, Tryz.ntmps89
          go_wp2_with (go_at_call 63; refine (rwhite_any _ _).mono ?_; rintro e w' ⟨rfl, rfl⟩; rw [HQ.out])
          go_ret
          exact ⟨ret_bool (by rw [HE2.out]), rfl⟩
        | false =>
          have HE2 : Hid (Bk.noteB s (k + 1) = false) := Lib.hid (by rw [HE.out, q2, q3]; rfl)
          go_enter Tryz.func89, Tryz.ntmps89
          go_wp2_with (go_at_call 63; refine (rwhite_any _ _).mono ?_; rintro e w' ⟨rfl, rfl⟩; rw [HQ.out])
          go_ret
          exact ⟨ret_bool (by rw [HE2.out]; simp; omega), rfl⟩
set_option maxHeartbeats 800000 in
theorem tab_any (s : ByteArray) (p t : Nat) (w : World) (hs : s.size ≤ 1000000000) (hp : p ≤ t) (ht : t ≤ s.size) :
    Calls Tryz.prog 87 #[.string s, .int .i64 p, .int .i64 t] w fun e w' => e = .returned (.int .i64 (Bk.tabI s p t)) ∧ w = w' := by
  have hb := get_bt s
  obtain ⟨R, hR⟩ : ∃ R, R = Bk.tabI s p t := ⟨_, rfl⟩
  rw [← hR]
  have HR : Hid (R = Bk.tabL s t (t - p) p) := Lib.hid (by rw [hR]; rfl)
  clear hR
  go_enter Tryz.func87, Tryz.ntmps87
  go_wp2_with fail
  go_loop [7] (fun n => ∃ k : Nat, k ≤ t ∧ n = .int .i64 k ∧ Hid (R = Bk.tabL s t (t - k) k)) (fun n => t - (intOf n).toNat)
  case atStart => exact ⟨p, hp, rfl, HR⟩
  case round =>
    obtain ⟨k, hk, rfl, H⟩ := hrel
    by_cases hlt : k < t
    · obtain ⟨f, hf⟩ : ∃ f, t - k = f + 1 := ⟨t - k - 1, by omega⟩
      have hf2 : t - (k + 1) = f := by omega
      cases hq : Bk.whiteB (bt s k) with
      | true =>
        have HQ := Lib.hid hq
        by_cases h9 : bt s k = 9
        · have HE : Hid (R = k) := Lib.hid (by rw [H.out, hf, Bk.tabL, if_pos hlt, if_pos hq, if_pos h9])
          have q9 : (bt s k == 9) = true := by simp [h9]
          have W9 : Bk.whiteB 9 = true := rfl
          clear hf hf2
          go_wp2_with (go_at_call 63; refine (rwhite_any _ _).mono ?_; rintro e w' ⟨rfl, rfl⟩; first | rw [HQ.out] | rw [W9])
          go_ret
          exact ⟨ret_int (by rw [HE.out]), rfl⟩
        · have HE : Hid (R = Bk.tabL s t (t - (k + 1)) (k + 1)) := Lib.hid (by rw [H.out, hf, Bk.tabL, if_pos hlt, if_pos hq, if_neg h9, hf2])
          have q9 : (bt s k == 9) = false := by simp [h9]
          clear hf hf2
          go_wp2_with (go_at_call 63; refine (rwhite_any _ _).mono ?_; rintro e w' ⟨rfl, rfl⟩; rw [HQ.out])
          go_round
          case rel => exact ⟨k + 1, by omega, by go_num, HE⟩
          case measure => simp [intOf]; omega
      | false =>
        have HQ := Lib.hid hq
        have HE : Hid (R = -1) := Lib.hid (by rw [H.out, hf, Bk.tabL, if_pos hlt, if_neg (by rw [hq]; decide)])
        clear hf hf2
        go_wp2_with (go_at_call 63; refine (rwhite_any _ _).mono ?_; rintro e w' ⟨rfl, rfl⟩; rw [HQ.out])
        go_ret
        exact ⟨ret_int (by rw [HE.out]), rfl⟩
    · have HE : Hid (R = -1) := Lib.hid (by rw [H.out, show t - k = 0 from by omega]; rfl)
      go_wp2_with fail
      go_ret
      exact ⟨ret_int (by rw [HE.out]), rfl⟩
end Go.Proofs.YtlmjabnkjmfcmaaGreat
