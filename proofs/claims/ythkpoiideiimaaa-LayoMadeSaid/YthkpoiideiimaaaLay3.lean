/- A layout nested further is told as it was, each row that has something further in: plain law. -/
import Derived.Test.YthkpoiideiimaaaLay2
namespace Go.Proofs.Ythkpoiideiimaaa
open Go Go.RowKit Go.PlainAid
set_option linter.unusedVariables false
namespace Bk
theorem size_ext (s : ByteArray) (a b : Nat) (h : b ≤ s.size) : (s.extract a b).size = b - a := by
  simp [ByteArray.size_extract]; omega
theorem bt_ext {s : ByteArray} {a b j : Nat} (h : b ≤ s.size) (hj : a + j < b) : bt (s.extract a b) j = bt s (a + j) := by
  have h1 : j < (s.extract a b).size := by rw [size_ext s a b h]; omega
  rw [← get_bt _ j h1, ← get_bt s (a + j) (by omega)]
  simp [ByteArray.getElem_extract]
theorem ext_left {a b : ByteArray} {i : Nat} (h : i < a.size) : (a ++ b).extract i (i + 1) = a.extract i (i + 1) := by
  have hz := size_app a b
  refine ba_ext (by rw [size_ext _ _ _ (by omega), size_ext _ _ _ (by omega)]) (fun j hj => ?_)
  rw [size_ext _ _ _ (by omega)] at hj
  rw [bt_ext (by omega) (by omega), bt_ext (by omega) (by omega), bt_left (by omega)]
theorem ext_right {a b : ByteArray} {j : Nat} (h : j < b.size) : (a ++ b).extract (a.size + j) (a.size + j + 1) = b.extract j (j + 1) := by
  have hz := size_app a b
  refine ba_ext (by rw [size_ext _ _ _ (by omega), size_ext _ _ _ (by omega)]; omega) (fun i hi => ?_)
  rw [size_ext _ _ _ (by omega)] at hi
  rw [bt_ext (by omega) (by omega), bt_ext (by omega) (by omega), bt_right (by omega) (by omega)]
  congr 1; omega
theorem ext_snoc {s : ByteArray} {j : Nat} (h : j < s.size) : s.extract 0 j ++ s.extract j (j + 1) = s.extract 0 (j + 1) := by
  have h1 := size_ext s 0 j (by omega)
  have h2 := size_ext s j (j + 1) (by omega)
  have h3 := size_ext s 0 (j + 1) (by omega)
  refine ba_ext (by rw [size_app]; omega) (fun i hi => ?_)
  rw [size_app] at hi
  rw [bt_ext (by omega) (by omega)]
  by_cases e : i < j
  · rw [bt_left (by omega), bt_ext (by omega) (by omega)]
  · rw [bt_right (by omega) (by omega), bt_ext (by omega) (by omega)]
    congr 1; omega
theorem ext_all (s : ByteArray) : s.extract 0 s.size = s := by
  have h1 := size_ext s 0 s.size (Nat.le_refl _)
  refine ba_ext (by omega) (fun i hi => ?_)
  rw [bt_ext (Nat.le_refl _) (by omega)]
  congr 1; omega
/-- The first i bytes of a text, each row that has something further in. -/
def indN (s : ByteArray) (k : Nat) : Nat → ByteArray
  | 0 => ByteArray.empty
  | i + 1 => (if bt s i ≠ 10 ∧ (i = 0 ∨ bt s (i - 1) = 10) then indN s k i ++ manyS 32 k else indN s k i) ++ s.extract i (i + 1)
def indS (s : ByteArray) (k : Nat) : ByteArray := indN s k s.size
theorem indN_left (a b : ByteArray) (k : Nat) : ∀ i, i ≤ a.size → indN (a ++ b) k i = indN a k i
  | 0, _ => rfl
  | i + 1, h => by
    rw [indN, indN, indN_left a b k i (by omega), ext_left (by omega), bt_left (by omega)]
    by_cases h0 : i = 0
    · subst h0; simp
    · rw [bt_left (show i - 1 < a.size by omega)]
/-- Does a text end a row, or has it nothing? -/
def openB (s : ByteArray) : Prop := s.size = 0 ∨ bt s (s.size - 1) = 10
instance (s : ByteArray) : Decidable (openB s) := by unfold openB; exact inferInstance
theorem ind_text {a s : ByteArray} (k : Nat) (hlf : ∀ j, j < s.size → bt s j ≠ 10) (h0 : 0 < s.size) :
    indS (a ++ s) k = (if openB a then indS a k ++ manyS 32 k else indS a k) ++ s := by
  have hz := size_app a s
  have hj : ∀ j, j < s.size → indN (a ++ s) k (a.size + (j + 1)) = (if openB a then indS a k ++ manyS 32 k else indS a k) ++ s.extract 0 (j + 1) := by
    intro j
    induction j with
    | zero =>
      intro h
      have hb : bt (a ++ s) a.size = bt s 0 := by rw [bt_right (by omega) (by omega), Nat.sub_self]
      rw [← Nat.add_assoc, indN, Nat.add_zero, indN_left a s k a.size (Nat.le_refl _), hb]
      have he : (a ++ s).extract a.size (a.size + 1) = s.extract 0 1 := ext_right (j := 0) h
      rw [he]
      congr 1
      by_cases ha : a.size = 0
      · rw [if_pos ⟨hlf 0 h, .inl ha⟩, if_pos (show openB a from .inl ha)]; rfl
      · have hb2 : bt (a ++ s) (a.size - 1) = bt a (a.size - 1) := bt_left (by omega)
        rw [hb2]
        by_cases hl : bt a (a.size - 1) = 10
        · rw [if_pos ⟨hlf 0 h, .inr hl⟩, if_pos (show openB a from .inr hl)]; rfl
        · rw [if_neg (by rintro ⟨_, h | h⟩; exact ha h; exact hl h), if_neg (show ¬ openB a from by rintro (h | h); exact ha h; exact hl h)]; rfl
    | succ j ih =>
      intro h
      rw [← Nat.add_assoc, indN, ih (by omega)]
      have hb : bt (a ++ s) (a.size + (j + 1) - 1) = bt s j := by
        rw [bt_right (by omega) (by omega)]; congr 1; omega
      rw [hb, if_neg (by rintro ⟨_, h2 | h2⟩; omega; exact hlf j (by omega) h2), ext_right (by omega), ByteArray.append_assoc, ext_snoc (by omega)]
  have := hj (s.size - 1) (by omega)
  rw [show s.size - 1 + 1 = s.size from by omega, ext_all] at this
  unfold indS
  rw [hz]; exact this
theorem ind_feed (a : ByteArray) (k : Nat) : indS (a ++ ⟨#[10]⟩) k = indS a k ++ ⟨#[10]⟩ := by
  have hz := size_app a ⟨#[10]⟩
  have h1 : (⟨#[10]⟩ : ByteArray).size = 1 := rfl
  unfold indS
  rw [hz, h1, indN, indN_left a _ k a.size (Nat.le_refl _)]
  have hb : bt (a ++ ⟨#[10]⟩) a.size = 10 := by rw [bt_right (by omega) (by omega), Nat.sub_self]; decide
  rw [hb, if_neg (by rintro ⟨h, _⟩; exact h rfl)]
  congr 1
  have he : (a ++ ⟨#[10]⟩).extract (a.size + 0) (a.size + 0 + 1) = (⟨#[10]⟩ : ByteArray).extract 0 1 := ext_right (by omega)
  rw [Nat.add_zero] at he
  rw [he]; decide
theorem many_add (c : UInt8) (a : Nat) : ∀ b, manyS c a ++ manyS c b = manyS c (a + b)
  | 0 => by show _ ++ ByteArray.empty = _; rw [ByteArray.append_empty]; rfl
  | b + 1 => by rw [manyS, ← ByteArray.append_assoc, many_add c a b, ← Nat.add_assoc, manyS]
/-- How a state told k further in stands to the one told as it was. -/
structure Rel (k : Nat) (st st' : St) : Prop where
  out : st'.out = indS st.out k
  bg : st'.bg = st.bg
  col : st.bg = true → st'.col = st.col + k
  op : st.bg = true → ¬ openB st.out
  cl : st.bg = false → openB st.out
theorem rel_start (k : Nat) : Rel k st0 st0 := ⟨rfl, rfl, fun h => (by cases h), fun h => (by cases h), fun _ => Or.inl rfl⟩
theorem rel_feed {k : Nat} {st st' : St} (h : Rel k st st') : Rel k (feedS st) (feedS st') := by
  refine ⟨?_, rfl, fun h => (by cases h), fun h => (by cases h), fun _ => ?_⟩
  · show st'.out ++ _ = indS (st.out ++ _) k
    rw [ind_feed, h.out]
  · have hz := size_app st.out ⟨#[10]⟩
    have h1 : (⟨#[10]⟩ : ByteArray).size = 1 := rfl
    refine .inr ?_
    show bt (st.out ++ ⟨#[10]⟩) ((st.out ++ ⟨#[10]⟩).size - 1) = 10
    rw [bt_right (by omega) (by omega), show (st.out ++ (⟨#[10]⟩ : ByteArray)).size - 1 - st.out.size = 0 from by omega]; decide
theorem rel_text {k : Nat} {st st' : St} (h : Rel k st st') {s : ByteArray} {nest : Int} (hn : 0 ≤ nest) (hlf : ∀ j, j < s.size → bt s j ≠ 10) : Rel k (txtS st s nest) (txtS st' s (nest + k)) := by
  unfold txtS
  by_cases h0 : s.size = 0
  · rw [if_pos h0, if_pos h0]; exact h
  · rw [if_neg h0, if_neg h0]
    have hat : atC st' (nest + k) = atC st nest + k := by
      unfold atC
      rw [h.bg]
      cases hb : st.bg with
      | true => exact h.col hb
      | false => rfl
    have hnop : ∀ a : ByteArray, ¬ openB (a ++ s) := by
      intro a
      have hz := size_app a s
      rintro (h1 | h1)
      · omega
      · rw [bt_right (by omega) (by omega)] at h1
        exact hlf _ (by omega) h1
    refine ⟨?_, rfl, fun _ => ?_, fun _ => ?_, fun hf => (by cases hf)⟩
    · show (if st'.bg then st'.out else st'.out ++ manyS 32 (nest + k).toNat) ++ s = indS ((if st.bg then st.out else st.out ++ manyS 32 nest.toNat) ++ s) k
      rw [h.bg]
      cases hb : st.bg with
      | true =>
        show st'.out ++ s = indS (st.out ++ s) k
        rw [ind_text k hlf (by omega), if_neg (h.op hb), h.out]
      | false =>
        show st'.out ++ manyS 32 (nest + k).toNat ++ s = indS (st.out ++ manyS 32 nest.toNat ++ s) k
        have hlf2 : ∀ j, j < (manyS 32 nest.toNat ++ s).size → bt (manyS 32 nest.toNat ++ s) j ≠ 10 := by
          intro j hj
          rw [size_app, manyS_size] at hj
          by_cases e : j < nest.toNat
          · rw [bt_left (by rw [manyS_size]; exact e), manyS_bt 32 _ j e]; decide
          · rw [bt_right (by rw [manyS_size]; omega) (by rw [manyS_size]; omega), manyS_size]; exact hlf _ (by omega)
        rw [show st.out ++ manyS 32 nest.toNat ++ s = st.out ++ (manyS 32 nest.toNat ++ s) from ByteArray.append_assoc, ind_text k hlf2 (by rw [size_app]; omega), if_pos (h.cl hb), h.out, show (nest + (k : Int)).toNat = k + nest.toNat from by omega, ← many_add]
        simp only [ByteArray.append_assoc]
    · show atC st' (nest + k) + _ = atC st nest + _ + _
      rw [hat]; omega
    · show ¬ openB ((if st.bg then st.out else st.out ++ manyS 32 nest.toNat) ++ s)
      exact hnop _
theorem rel_fits {k : Nat} {st st' : St} (h : Rel k st st') {W nest : Int} {kids : Fo} : fitsB (W + k) kids (nest + k) st' = fitsB W kids nest st := by
  have hat : atC st' (nest + k) = atC st nest + k := by
    unfold atC
    rw [h.bg]
    cases hb : st.bg with
    | true => exact h.col hb
    | false => rfl
  unfold fitsB
  cases widF kids with
  | none => rfl
  | some v =>
    show decide ((v : Int) ≤ W + k - atC st' (nest + k)) = decide ((v : Int) ≤ W - atC st nest)
    rw [hat, Bool.eq_iff_iff]; simp; omega
theorem lf_blank (j : Nat) (h : j < (⟨#[32]⟩ : ByteArray).size) : bt ⟨#[32]⟩ j ≠ 10 := by
  have : (⟨#[32]⟩ : ByteArray).size = 1 := rfl
  obtain rfl : j = 0 := by omega
  decide
theorem tell_nest (W : Int) (k : Nat) : ∀ (F : Fo) (nest : Int) (fl : Bool) (st st' : St), GoodF F → 0 ≤ nest → Rel k st st' → Rel k (tellF W F nest fl st) (tellF (W + k) F (nest + k) fl st') := by
  intro F
  induction F with
  | nil => intro nest fl st st' _ _ h; exact h
  | cons kd t n kids rest ihk ihr =>
    intro nest fl st st' hG hn h
    obtain ⟨⟨mt, ht⟩, hlf, hk, hl, hnn, hgk, hgr⟩ := hG
    rw [tell_cons, tell_cons]
    refine ihr nest fl _ _ hgr hn ?_
    unfold nodeF
    by_cases k1 : kd = 1
    · rw [if_pos k1, if_pos k1]; exact rel_text h hn hlf
    · rw [if_neg k1, if_neg k1]
      by_cases k2 : kd = 2
      · rw [if_pos k2, if_pos k2]
        cases fl with
        | true => exact rel_text h hn (fun j hj => lf_blank j hj)
        | false => exact rel_feed h
      · rw [if_neg k2, if_neg k2]
        by_cases k3 : kd = 3
        · rw [if_pos k3, if_pos k3]
          cases fl with
          | true => exact h
          | false => exact rel_feed h
        · rw [if_neg k3, if_neg k3]
          by_cases k4 : kd = 4
          · rw [if_pos k4, if_pos k4]; exact rel_feed h
          · rw [if_neg k4, if_neg k4]
            by_cases k5 : kd = 5
            · rw [if_pos k5, if_pos k5]; exact ihk _ _ _ _ hgk hn h
            · rw [if_neg k5, if_neg k5]
              by_cases k6 : kd = 6
              · rw [if_pos k6, if_pos k6]
                have hc : 0 ≤ clampN n := by unfold clampN; omega
                have := ihk (nest + clampN n) fl st st' hgk (by omega) h
                rw [show nest + clampN n + (k : Int) = nest + k + clampN n from by omega] at this
                exact this
              · rw [if_neg k6, if_neg k6]
                by_cases k7 : kd = 7
                · rw [if_pos k7, if_pos k7, rel_fits h]; exact ihk _ _ _ _ hgk hn h
                · rw [if_neg k7, if_neg k7]; exact h
/-- The law: nested k further, in a width that is as much greater. -/
theorem show_nest {W : Int} {k : Nat} {F : Fo} (hk : k ≤ 10000) (hG : GoodF F) : showF (W + k) (.cons 6 ByteArray.empty k F .nil) = indS (showF W F) k := by
  have h := (tell_nest W k F 0 false st0 st0 hG (Int.le_refl 0) (rel_start k)).out
  unfold showF
  rw [tell_cons]
  show (tellF (W + k) F (0 + clampN k) false st0).out = _
  rw [show (0 : Int) + clampN k = 0 + k from by unfold clampN; omega]
  exact h
end Bk
end Go.Proofs.Ythkpoiideiimaaa
