/- Layouts as forests: how wide, how told; what stands in one row: plain functions, no program in sight. -/
import Derived.Test.YthkpoiideiimaaaBase
import Derived.Laws.RangeAny
namespace Go.Proofs.Ythkpoiideiimaaa
open Go Go.RowKit Go.PlainAid
set_option linter.unusedVariables false
namespace Bk
/-- Layouts, one behind the other: kind, text, number, those within, those behind. -/
inductive Fo where
  | nil : Fo
  | cons (k : Int) (t : ByteArray) (n : Int) (kids rest : Fo) : Fo
def Fo.len : Fo → Nat
  | .nil => 0
  | .cons _ _ _ _ r => r.len + 1
def Fo.app : Fo → Fo → Fo
  | .nil, g => g
  | .cons k t n kids r, g => .cons k t n kids (r.app g)
theorem Fo.app_len : ∀ f g : Fo, (f.app g).len = f.len + g.len
  | .nil, g => by simp [Fo.app, Fo.len]
  | .cons k t n kids r, g => by simp only [Fo.app, Fo.len, Fo.app_len r g]; omega
theorem Fo.app_nil : ∀ f : Fo, f.app .nil = f
  | .nil => rfl
  | .cons k t n kids r => by simp only [Fo.app, Fo.app_nil r]
theorem Fo.app_assoc : ∀ f g h : Fo, (f.app g).app h = f.app (g.app h)
  | .nil, g, h => rfl
  | .cons k t n kids r, g, h => by simp only [Fo.app, Fo.app_assoc r g h]
/-- How many code points stand from a place on. -/
def widL (s : ByteArray) : Nat → Nat → Nat
  | 0, _ => 0
  | f + 1, p => if p < s.size then widL s f (p + (Utf8.decode s p).2) + 1 else 0
def widS (s : ByteArray) : Nat := widL s s.size 0
/-- How wide layouts are in one row; none: they can't stand in one. -/
def widF : Fo → Option Nat
  | .nil => some 0
  | .cons k t n kids rest =>
    match (if k = 1 then some (widS t) else if k = 2 then some 1 else if k = 3 then some 0 else if k = 4 then none else if k = 5 ∨ k = 6 ∨ k = 7 then widF kids else some 0), widF rest with
    | some a, some b => some (a + b)
    | _, _ => none
/-- What was told, the column, has the row begun? -/
structure St where
  out : ByteArray
  col : Int
  bg : Bool
def feedS (st : St) : St := ⟨st.out ++ ⟨#[10]⟩, 0, false⟩
def atC (st : St) (nest : Int) : Int := if st.bg then st.col else nest
def txtS (st : St) (s : ByteArray) (nest : Int) : St :=
  if s.size = 0 then st else ⟨(if st.bg then st.out else st.out ++ manyS 32 nest.toNat) ++ s, atC st nest + widS s, true⟩
def fitsB (W : Int) (kids : Fo) (nest : Int) (st : St) : Bool :=
  match widF kids with
  | some v => decide ((v : Int) ≤ W - atC st nest)
  | none => false
def clampN (n : Int) : Int := min (max n 0) 10000
/-- Layouts told. -/
def tellF (W : Int) : Fo → Int → Bool → St → St
  | .nil, _, _, st => st
  | .cons k t n kids rest, nest, flat, st =>
    tellF W rest nest flat
      (if k = 1 then txtS st t nest
      else if k = 2 then (if flat then txtS st ⟨#[32]⟩ nest else feedS st)
      else if k = 3 then (if flat then st else feedS st)
      else if k = 4 then feedS st
      else if k = 5 then tellF W kids nest flat st
      else if k = 6 then tellF W kids (nest + clampN n) flat st
      else if k = 7 then tellF W kids nest (flat || fitsB W kids nest st) st
      else st)
def st0 : St := ⟨ByteArray.empty, 0, false⟩
def showF (W : Int) (f : Fo) : ByteArray := (tellF W f 0 false st0).out
theorem tell_app (W : Int) : ∀ (f g : Fo) (nest : Int) (fl : Bool) (st : St), tellF W (f.app g) nest fl st = tellF W g nest fl (tellF W f nest fl st)
  | .nil, g, nest, fl, st => rfl
  | .cons k t n kids r, g, nest, fl, st => by simp only [Fo.app, tellF]; exact tell_app W r g nest fl _
/-- How many line feeds a text has. -/
def cntN (s : ByteArray) : Nat → Nat
  | 0 => 0
  | k + 1 => cntN s k + if bt s k == 10 then 1 else 0
def cntF (s : ByteArray) : Nat := cntN s s.size
theorem cntN_left (a b : ByteArray) : ∀ k, k ≤ a.size → cntN (a ++ b) k = cntN a k
  | 0, _ => rfl
  | k + 1, h => by rw [cntN, cntN, cntN_left a b k (by omega), bt_left (by omega)]
theorem cntN_right (a b : ByteArray) : ∀ j, j ≤ b.size → cntN (a ++ b) (a.size + j) = cntF a + cntN b j
  | 0, _ => by rw [Nat.add_zero, cntN_left a b a.size (Nat.le_refl _)]; rfl
  | j + 1, h => by
    rw [← Nat.add_assoc, cntN, cntN, cntN_right a b j (by omega), bt_right (by omega) (by omega), Nat.add_sub_cancel_left]; omega
theorem cntF_app (a b : ByteArray) : cntF (a ++ b) = cntF a + cntF b := by
  unfold cntF
  rw [size_app, cntN_right a b b.size (Nat.le_refl _)]; rfl
theorem cntN_zero {s : ByteArray} : ∀ k, (∀ j, j < k → bt s j ≠ 10) → cntN s k = 0
  | 0, _ => rfl
  | k + 1, h => by
    rw [cntN, cntN_zero k (fun j hj => h j (by omega))]
    have := h k (by omega)
    rw [if_neg (by simpa using this)]
theorem cntF_zero {s : ByteArray} (h : ∀ j, j < s.size → bt s j ≠ 10) : cntF s = 0 := cntN_zero _ h
theorem cntF_lf : cntF ⟨#[10]⟩ = 1 := by decide +kernel
theorem cntF_blanks (n : Nat) : cntF (manyS 32 n) = 0 := cntF_zero (fun j hj => by rw [manyS_bt 32 n j (by rw [manyS_size] at hj; exact hj)]; decide)
/-- A text of code points of one byte, and of é: how many there are. -/
inductive Gd : ByteArray → Nat → Prop where
  | nil : Gd ByteArray.empty 0
  | asc {s : ByteArray} {n : Nat} (c : UInt8) (h : Gd s n) (hc : c.toNat < 128) : Gd (s ++ ⟨#[c]⟩) (n + 1)
  | e {s : ByteArray} {n : Nat} (h : Gd s n) : Gd (s ++ ⟨#[195, 169]⟩) (n + 1)
theorem Gd.app {a b : ByteArray} {n m : Nat} (ha : Gd a n) (hb : Gd b m) : Gd (a ++ b) (n + m) := by
  induction hb with
  | nil => rw [ByteArray.append_empty]; exact ha
  | asc c h hc ih => rw [← ByteArray.append_assoc]; exact .asc c ih hc
  | e h ih => rw [← ByteArray.append_assoc]; exact .e ih
theorem Gd.le {s : ByteArray} {n : Nat} (h : Gd s n) : n ≤ s.size := by
  induction h with
  | nil => exact Nat.le_refl _
  | asc c h hc ih => rw [size_app]; show _ ≤ _ + 1; omega
  | e h ih => rw [size_app]; show _ ≤ _ + 2; omega
theorem bt_get {s : ByteArray} {k : Nat} (h : k < s.size) : (s[k].toNat : Int) = bt s k := get_bt s k h
theorem decode_one {s : ByteArray} {p : Nat} (h : p < s.size) (hc : bt s p < 128) : (Utf8.decode s p).2 = 1 := by
  have := bt_get h
  rw [decode_ascii s p h (by omega)]
theorem decode_two {s : ByteArray} {p : Nat} (h : p + 1 < s.size) (h1 : bt s p = 195) (h2 : bt s (p + 1) = 169) : (Utf8.decode s p).2 = 2 := by
  have e1 := bt_get (show p < s.size by omega)
  have e2 := bt_get h
  have g1 : (s.get! (p + 0)).toNat = 195 := by rw [get_at s p (by omega)]; omega
  have g2 : (s.get! (p + 1)).toNat = 169 := by
    have this : s.get! (p + 1) = s[p + 1] := get_at s (p + 1) h
    rw [this]; omega
  rw [Nat.add_zero] at g1
  simp [Utf8.decode, g1, g2, h]
theorem widL_go {s : ByteArray} {n : Nat} (h : Gd s n) (X : ByteArray) : ∀ f, widL (s ++ X) (f + n) 0 = n + widL (s ++ X) f s.size := by
  induction h generalizing X with
  | nil => intro f; simp [show ByteArray.empty.size = 0 from rfl]
  | @asc s n c h hc ih =>
    intro f
    have hz := size_app s (⟨#[c]⟩ ++ X)
    have hz2 := size_app (⟨#[c]⟩ : ByteArray) X
    have h1 : (⟨#[c]⟩ : ByteArray).size = 1 := rfl
    rw [ByteArray.append_assoc, show f + (n + 1) = f + 1 + n from by omega, ih (⟨#[c]⟩ ++ X) (f + 1), widL, if_pos (by omega), decode_one (by omega) ?_]
    · rw [size_app, h1]; omega
    · rw [bt_right (by omega) (by omega), Nat.sub_self, bt_left (by omega)]
      have := bt_get (s := ⟨#[c]⟩) (k := 0) (by omega)
      rw [← this]
      show ((c.toNat : Nat) : Int) < 128
      omega
  | @e s n h ih =>
    intro f
    have hz := size_app s (⟨#[195, 169]⟩ ++ X)
    have hz2 := size_app (⟨#[195, 169]⟩ : ByteArray) X
    have h1 : (⟨#[195, 169]⟩ : ByteArray).size = 2 := rfl
    rw [ByteArray.append_assoc, show f + (n + 1) = f + 1 + n from by omega, ih (⟨#[195, 169]⟩ ++ X) (f + 1), widL, if_pos (by omega), decode_two (by omega) ?_ ?_]
    · rw [size_app, h1]; omega
    · rw [bt_right (by omega) (by omega), Nat.sub_self, bt_left (by omega)]; decide
    · rw [bt_right (by omega) (by omega), Nat.add_sub_cancel_left, bt_left (by omega)]; decide
theorem widL_end (s : ByteArray) : ∀ f, widL s f s.size = 0
  | 0 => rfl
  | f + 1 => by rw [widL, if_neg (Nat.lt_irrefl _)]
theorem Gd.wid {s : ByteArray} {n : Nat} (h : Gd s n) : widS s = n := by
  have hl := h.le
  have := widL_go h ByteArray.empty (s.size - n)
  rw [ByteArray.append_empty, show s.size - n + n = s.size from by omega, widL_end] at this
  exact this
theorem gd_one (c : UInt8) (hc : c.toNat < 128) : Gd ⟨#[c]⟩ 1 := by
  have := Gd.asc c .nil hc
  rw [ByteArray.empty_append] at this
  exact this
theorem gd_blanks : ∀ n, Gd (manyS 32 n) n
  | 0 => .nil
  | n + 1 => .asc 32 (gd_blanks n) (by decide)
end Bk
end Go.Proofs.Ythkpoiideiimaaa
