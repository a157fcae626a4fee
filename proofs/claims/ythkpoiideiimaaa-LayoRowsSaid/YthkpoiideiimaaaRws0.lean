/- Words on rows, each at a column; a list of words in brackets: plain laws. -/
import Derived.Test.YthkpoiideiimaaaTel7
namespace Go.Proofs.Ythkpoiideiimaaa
open Go Go.RowKit Go.PlainAid
set_option linter.unusedVariables false
namespace Bk
/-- Rows: each a text at a column, and a new row. -/
def rowF (c : Int) (t : ByteArray) : Fo := .cons 6 ByteArray.empty c (.cons 1 t 0 .nil .nil) (.cons 4 ByteArray.empty 0 .nil .nil)
def rowsF (c : Nat → Int) (t : Nat → ByteArray) : Nat → Fo
  | 0 => .nil
  | n + 1 => (rowsF c t n).app (rowF (c n) (t n))
def rowsS (c : Nat → Int) (t : Nat → ByteArray) : Nat → ByteArray
  | 0 => ByteArray.empty
  | n + 1 => (if (t n).size = 0 then rowsS c t n else rowsS c t n ++ manyS 32 (c n).toNat ++ t n) ++ ⟨#[10]⟩
theorem rows_tell (W : Int) (c : Nat → Int) (t : Nat → ByteArray) (hc : ∀ i, 0 ≤ c i ∧ c i ≤ 10000) : ∀ n, tellF W (rowsF c t n) 0 false st0 = ⟨rowsS c t n, 0, false⟩
  | 0 => rfl
  | n + 1 => by
    have hcl : clampN (c n) = c n := by have := hc n; unfold clampN; omega
    rw [rowsF, tell_app, rows_tell W c t hc n]
    unfold rowF
    rw [tell_cons, tell_cons]
    show feedS (tellF W (.cons 1 (t n) 0 .nil .nil) (0 + clampN (c n)) false ⟨rowsS c t n, 0, false⟩) = _
    rw [tell_cons, hcl, Int.zero_add]
    show feedS (txtS ⟨rowsS c t n, 0, false⟩ (t n) (c n)) = ⟨(if (t n).size = 0 then rowsS c t n else rowsS c t n ++ manyS 32 (c n).toNat ++ t n) ++ ⟨#[10]⟩, 0, false⟩
    unfold txtS
    by_cases h : (t n).size = 0
    · rw [if_pos h, if_pos h]; rfl
    · rw [if_neg h, if_neg h]; rfl
theorem rows_show (W : Int) (c : Nat → Int) (t : Nat → ByteArray) (hc : ∀ i, 0 ≤ c i ∧ c i ≤ 10000) (n : Nat) : showN W 5 ByteArray.empty 0 (rowsF c t n) = rowsS c t n := by
  show (tellF W (rowsF c t n) 0 false st0).out = _
  rw [rows_tell W c t hc n]
/-- A list of words in brackets: what stands within, in one row, in many. -/
def inF (t : Nat → ByteArray) : Nat → Fo
  | 0 => .cons 3 ByteArray.empty 0 .nil .nil
  | n + 1 => (inF t n).app (.cons 1 (t n ++ ⟨#[44]⟩) 0 .nil (.cons 2 ByteArray.empty 0 .nil .nil))
def oneS (t : Nat → ByteArray) : Nat → ByteArray
  | 0 => ByteArray.empty
  | n + 1 => oneS t n ++ t n ++ ⟨#[44, 32]⟩
def moreS (t : Nat → ByteArray) (k : Nat) : Nat → ByteArray
  | 0 => ByteArray.empty
  | n + 1 => moreS t k n ++ ⟨#[10]⟩ ++ manyS 32 k ++ (t n ++ ⟨#[44]⟩)
/-- All within: n words with commas, and one. -/
def inS (t : Nat → ByteArray) (n : Nat) : Fo := (inF t n).app (.cons 1 (t n) 0 .nil .nil)
def groupF (t : Nat → ByteArray) (n : Nat) (step : Int) : Fo :=
  .cons 1 ⟨#[91]⟩ 0 .nil (.cons 6 ByteArray.empty step (inS t n) (.cons 3 ByteArray.empty 0 .nil (.cons 1 ⟨#[93]⟩ 0 .nil .nil)))
def wordsF (t : Nat → ByteArray) (n : Nat) (step : Int) : Fo := .cons 1 ⟨#[107, 58, 32]⟩ 0 .nil (.cons 7 ByteArray.empty 0 (groupF t n step) .nil)
theorem gd_of : ∀ (l : List UInt8), (∀ c ∈ l, c.toNat < 128) → Gd ⟨l.toArray⟩ l.length
  | [], _ => .nil
  | c :: l, hl => by
    have h1 := (gd_one c (hl c (by simp))).app (gd_of l (fun d hd => hl d (by simp [hd])))
    have e : (⟨(c :: l).toArray⟩ : ByteArray) = ⟨#[c]⟩ ++ ⟨l.toArray⟩ := by
      apply ByteArray.ext; simp [ByteArray.data_append]
    rw [e, List.length_cons, Nat.add_comm]; exact h1
theorem wid_app {a b : ByteArray} {m n : Nat} (ha : Gd a m) (hb : Gd b n) : widS (a ++ b) = widS a + widS b := by rw [(ha.app hb).wid, ha.wid, hb.wid]
theorem one_gd (t : Nat → ByteArray) (ht : ∀ i, ∃ m, Gd (t i) m) : ∀ n, ∃ m, Gd (oneS t n) m
  | 0 => ⟨0, .nil⟩
  | n + 1 => by
    obtain ⟨a, ha⟩ := one_gd t ht n
    obtain ⟨b, hb⟩ := ht n
    exact ⟨_, (ha.app hb).app (gd_of [44, 32] (by decide))⟩
theorem widF_app {F G : Fo} {a b : Nat} (h1 : widF F = some a) (h2 : widF G = some b) : widF (F.app G) = some (a + b) := by
  induction F generalizing a with
  | nil => cases h1; rw [Nat.zero_add]; exact h2
  | cons k t n kids rest ihk ihr =>
    obtain ⟨x, y, hx, hy, rfl⟩ := wid_cons h1
    show widF (.cons k t n kids (rest.app G)) = _
    rw [wid_put hx (ihr hy), Nat.add_assoc]
theorem in_wid (t : Nat → ByteArray) (ht : ∀ i, ∃ m, Gd (t i) m) : ∀ n, widF (inF t n) = some (widS (oneS t n))
  | 0 => by show widF (.cons 3 ByteArray.empty 0 .nil .nil) = some (widS ByteArray.empty); decide +kernel
  | n + 1 => by
    obtain ⟨a, ha⟩ := one_gd t ht n
    obtain ⟨b, hb⟩ := ht n
    have h44 := gd_one 44 (by decide)
    have h2 : Gd (⟨#[44, 32]⟩ : ByteArray) 2 := gd_of [44, 32] (by decide)
    have hl : widF (.cons 1 (t n ++ ⟨#[44]⟩) 0 .nil (.cons 2 ByteArray.empty 0 .nil .nil)) = some (widS (t n ++ ⟨#[44]⟩) + 1) :=
      wid_put (k := 1) rfl (wid_put (k := 2) (a := 1) (b := 0) rfl rfl)
    rw [inF, widF_app (in_wid t ht n) hl, oneS, ((ha.app hb).app h2).wid, (hb.app h44).wid, ha.wid, show a + (b + 1 + 1) = a + b + 2 from by omega]
theorem inS_wid (t : Nat → ByteArray) (ht : ∀ i, ∃ m, Gd (t i) m) (n : Nat) : widF (inS t n) = some (widS (oneS t n ++ t n)) := by
  obtain ⟨a, ha⟩ := one_gd t ht n
  obtain ⟨b, hb⟩ := ht n
  have hl : widF (.cons 1 (t n) 0 .nil .nil) = some (widS (t n) + 0) := wid_put (k := 1) rfl rfl
  rw [inS, widF_app (in_wid t ht n) hl, wid_app ha hb, Nat.add_zero]
theorem group_wid (t : Nat → ByteArray) (ht : ∀ i, ∃ m, Gd (t i) m) (n : Nat) (step : Int) : widF (groupF t n step) = some (widS (oneS t n ++ t n) + 2) := by
  have h := wid_put (k := 1) (t := ⟨#[91]⟩) (n := 0) (kids := .nil) (a := 1) (by decide +kernel) (wid_put (k := 6) (t := ByteArray.empty) (n := step) (by show widF (inS t n) = _; exact inS_wid t ht n) (wid_put (k := 3) (t := ByteArray.empty) (n := 0) (kids := .nil) (a := 0) rfl (wid_put (k := 1) (t := ⟨#[93]⟩) (n := 0) (kids := .nil) (rest := .nil) (a := 1) (b := 0) (by decide +kernel) rfl)))
  unfold groupF
  rw [h]; congr 1; omega
/-- A text told behind something in the row. -/
theorem txt_on {o : ByteArray} {c nest : Int} {s : ByteArray} (h : 0 < s.size) : txtS ⟨o, c, true⟩ s nest = ⟨o ++ s, c + widS s, true⟩ := by
  unfold txtS; rw [if_neg (by omega)]; rfl
theorem txt_new {o : ByteArray} {c nest : Int} {s : ByteArray} (h : 0 < s.size) : txtS ⟨o, c, false⟩ s nest = ⟨o ++ manyS 32 nest.toNat ++ s, nest + widS s, true⟩ := by
  unfold txtS; rw [if_neg (by omega)]; rfl
theorem in_flat (W : Int) (t : Nat → ByteArray) (h0 : ∀ i, 0 < (t i).size) (nest : Int) (o : ByteArray) (c : Int) : ∀ n, ∃ c', tellF W (inF t n) nest true ⟨o, c, true⟩ = ⟨o ++ oneS t n, c', true⟩
  | 0 => ⟨c, by rw [inF, tell_cons, oneS, ByteArray.append_empty]; rfl⟩
  | n + 1 => by
    obtain ⟨c', h⟩ := in_flat W t h0 nest o c n
    have hp : 0 < (t n ++ ⟨#[44]⟩).size := by rw [size_app]; have := h0 n; omega
    refine ⟨c' + widS (t n ++ (⟨#[44]⟩ : ByteArray)) + widS (⟨#[32]⟩ : ByteArray), ?_⟩
    rw [inF, tell_app, h, tell_cons, tell_cons]
    show txtS (txtS ⟨o ++ oneS t n, c', true⟩ (t n ++ ⟨#[44]⟩) nest) ⟨#[32]⟩ nest = _
    rw [txt_on hp, txt_on (by decide)]
    have e : o ++ oneS t n ++ (t n ++ (⟨#[44]⟩ : ByteArray)) ++ (⟨#[32]⟩ : ByteArray) = o ++ oneS t (n + 1) := by
      rw [oneS]
      have e2 : (⟨#[44, 32]⟩ : ByteArray) = ⟨#[44]⟩ ++ ⟨#[32]⟩ := by decide
      rw [e2]; simp only [ByteArray.append_assoc]
    rw [e]
theorem in_rows (W : Int) (t : Nat → ByteArray) (h0 : ∀ i, 0 < (t i).size) (nest : Int) (o : ByteArray) (c : Int) : ∀ n, tellF W (inF t n) nest false ⟨o, c, true⟩ = ⟨o ++ moreS t nest.toNat n ++ ⟨#[10]⟩, 0, false⟩
  | 0 => by rw [inF, tell_cons, moreS, ByteArray.append_empty]; rfl
  | n + 1 => by
    have hp : 0 < (t n ++ ⟨#[44]⟩).size := by rw [size_app]; have := h0 n; omega
    rw [inF, tell_app, in_rows W t h0 nest o c n, tell_cons, tell_cons]
    show feedS (txtS ⟨o ++ moreS t nest.toNat n ++ ⟨#[10]⟩, 0, false⟩ (t n ++ ⟨#[44]⟩) nest) = _
    rw [txt_new hp, moreS]
    show (⟨_ ++ ⟨#[10]⟩, 0, false⟩ : St) = _
    simp only [ByteArray.append_assoc]
def wantOne (t : Nat → ByteArray) (n : Nat) (x : Nat) : ByteArray := manyS 32 x ++ ⟨#[107, 58, 32, 91]⟩ ++ (oneS t n ++ t n) ++ ⟨#[93]⟩
def wantMore (t : Nat → ByteArray) (n : Nat) (x k : Nat) : ByteArray := manyS 32 x ++ ⟨#[107, 58, 32, 91]⟩ ++ (moreS t k n ++ ⟨#[10]⟩ ++ manyS 32 k ++ t n) ++ ⟨#[10]⟩ ++ manyS 32 x ++ ⟨#[93]⟩
theorem words_show (W : Int) (t : Nat → ByteArray) (ht : ∀ i, ∃ m, Gd (t i) m) (h0 : ∀ i, 0 < (t i).size) (n x step : Nat) (hx : x ≤ 1000) (hs : step ≤ 1000) :
    showN W 6 ByteArray.empty x (wordsF t n step) = if (x : Int) + 5 + widS (oneS t n ++ t n) ≤ W then wantOne t n x else wantMore t n x (x + step) := by
  have hcx : clampN (x : Int) = x := by unfold clampN; omega
  have hcs : clampN (step : Int) = step := by unfold clampN; omega
  have hg := group_wid t ht n step
  have h3 : widS (⟨#[107, 58, 32]⟩ : ByteArray) = 3 := (gd_of [107, 58, 32] (by decide)).wid
  show (tellF W (wordsF t n step) (0 + clampN x) false st0).out = _
  rw [hcx, Int.zero_add, wordsF, tell_cons, tell_cons]
  show (tellF W (groupF t n step) x (false || fitsB W (groupF t n step) x (txtS ⟨ByteArray.empty, 0, false⟩ ⟨#[107, 58, 32]⟩ x)) (txtS ⟨ByteArray.empty, 0, false⟩ ⟨#[107, 58, 32]⟩ x)).out = _
  rw [txt_new (by decide), Bool.false_or, ByteArray.empty_append, h3, show (x : Int).toNat = x from by omega]
  have hf : fitsB W (groupF t n step) x ⟨manyS 32 x ++ ⟨#[107, 58, 32]⟩, (x : Int) + (3 : Nat), true⟩ = decide ((x : Int) + 5 + widS (oneS t n ++ t n) ≤ W) := by
    unfold fitsB
    rw [hg]
    show decide (((widS (oneS t n ++ t n) + 2 : Nat) : Int) ≤ W - ((x : Int) + (3 : Nat))) = _
    rw [Bool.eq_iff_iff]; simp; omega
  rw [hf]
  have e1 : ∀ (a : ByteArray), manyS 32 x ++ (⟨#[107, 58, 32]⟩ : ByteArray) ++ (⟨#[91]⟩ : ByteArray) ++ a = manyS 32 x ++ (⟨#[107, 58, 32, 91]⟩ : ByteArray) ++ a := by
    intro a
    have e2 : (⟨#[107, 58, 32, 91]⟩ : ByteArray) = ⟨#[107, 58, 32]⟩ ++ ⟨#[91]⟩ := by decide
    rw [e2]; simp only [ByteArray.append_assoc]
  by_cases hle : (x : Int) + 5 + widS (oneS t n ++ t n) ≤ W
  · rw [if_pos hle, decide_eq_true hle, groupF, tell_cons, tell_cons, tell_cons, tell_cons]
    show (txtS (tellF W (inS t n) ((x : Int) + clampN step) true (txtS ⟨_, _, true⟩ ⟨#[91]⟩ x)) ⟨#[93]⟩ x).out = _
    rw [txt_on (by decide), inS, tell_app]
    obtain ⟨c', h⟩ := in_flat W t h0 ((x : Int) + clampN step) (manyS 32 x ++ (⟨#[107, 58, 32]⟩ : ByteArray) ++ (⟨#[91]⟩ : ByteArray)) ((x : Int) + (3 : Nat) + widS (⟨#[91]⟩ : ByteArray)) n
    rw [h, tell_cons]
    show (txtS (txtS ⟨_, c', true⟩ (t n) _) ⟨#[93]⟩ x).out = _
    rw [txt_on (h0 n), txt_on (by decide)]
    show _ = wantOne t n x
    unfold wantOne
    rw [← e1]
    show manyS 32 x ++ (⟨#[107, 58, 32]⟩ : ByteArray) ++ (⟨#[91]⟩ : ByteArray) ++ oneS t n ++ t n ++ ⟨#[93]⟩ = _
    simp only [ByteArray.append_assoc]
  · rw [if_neg hle, decide_eq_false hle, groupF, tell_cons, tell_cons, tell_cons, tell_cons]
    show (txtS (feedS (tellF W (inS t n) ((x : Int) + clampN step) false (txtS ⟨_, _, true⟩ ⟨#[91]⟩ x))) ⟨#[93]⟩ x).out = _
    rw [txt_on (by decide), inS, tell_app, in_rows W t h0, tell_cons]
    show (txtS (feedS (txtS ⟨_, 0, false⟩ (t n) _)) ⟨#[93]⟩ x).out = _
    rw [txt_new (h0 n)]
    show (txtS ⟨_ ++ ⟨#[10]⟩, 0, false⟩ ⟨#[93]⟩ x).out = _
    rw [txt_new (by decide), hcs, show ((x : Int) + (step : Int)).toNat = x + step from by omega, show (x : Int).toNat = x from by omega]
    show _ = wantMore t n x (x + step)
    unfold wantMore
    rw [← e1]
    simp only [ByteArray.append_assoc]
end Bk
end Go.Proofs.Ythkpoiideiimaaa
