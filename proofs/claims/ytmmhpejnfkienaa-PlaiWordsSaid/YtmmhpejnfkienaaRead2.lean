/- Words on rows, put together row by row: what reading them comes to. Plain. -/
import Derived.Test.YtmmhpejnfkienaaRead
namespace Go.Proofs.Ytmmhpejnfkienaa
open Go Go.RowKit Go.PlainAid
set_option linter.unusedVariables false
namespace Bk
/-- What is read from the beginning of a text on. -/
def R0 (T : ByteArray) (fl : Bool) : Nat × List ByteArray × Bool := readL T 0 fl (T.size + 1) (partN T 0 fl) [T.extract 0 (partN T 0 fl)] true
/-- A text of words on rows, what it comes to, is it of one word: whatever rows stand behind. -/
def Wd (fl : Bool) (S W : ByteArray) (o : Bool) : Prop :=
  0 < S.size ∧ ∃ (P : List ByteArray) (w0 v : ByteArray), OkW w0 ∧ Top P v ∧ W = v ++ w0 ∧
    ∀ X : ByteArray, (X.size = 0 ∨ bt X 0 = 10) → beginsB (S ++ X) 0 fl = true ∧ Rd (S ++ X) 0 fl (R0 (S ++ X) fl) S.size (P ++ [w0]) o
theorem size_lf (b : ByteArray) : ((⟨#[10]⟩ : ByteArray) ++ b).size = b.size + 1 := by rw [size_app]; show 1 + b.size = _; omega
theorem bt_lf (b : ByteArray) : bt ((⟨#[10]⟩ : ByteArray) ++ b) 0 = 10 := by rw [bt_left (by decide)]; decide
theorem fin_of {S w X : ByteArray} {q : Nat} (hq : q + w.size = S.size) (h : X.size = 0 ∨ bt X 0 = 10) : q + w.size = (S ++ X).size ∨ bt (S ++ X) (q + w.size) = 10 := by
  have hz := size_app S X
  rcases h with h | h
  · exact .inl (by omega)
  · by_cases hX : X.size = 0
    · exact .inl (by omega)
    · refine .inr ?_
      rw [bt_right (by omega) (by omega), show q + w.size - S.size = 0 from by omega]; exact h
theorem wd_one {fl : Bool} {w : ByteArray} (hw : OkW w) : Wd fl w w true := by
  refine ⟨hw.pos, [], w, ByteArray.empty, hw, .inl ⟨rfl, rfl⟩, by rw [ByteArray.empty_append], fun X hX => ?_⟩
  have hz := size_app w X
  have h : WordIs (w ++ X) 0 w := ⟨hw, by omega, fun j hj => by rw [Nat.zero_add, bt_left hj], fin_of (by omega) hX⟩
  have hp := h.part fl
  have he := h.ext
  rw [Nat.zero_add] at hp he
  refine ⟨h.begins fl, ?_⟩
  have hr := rd_start (s := w ++ X) (k := 0) (n := 0) (fl := fl) (Nat.zero_le _)
  rw [hp] at hr
  unfold R0
  rw [hp]
  rw [he] at hr ⊢
  exact hr
/-- A row more. -/
def rowS (g c : Nat) (w : ByteArray) : ByteArray := ⟨#[10]⟩ ++ manyS 10 g ++ manyS 32 c ++ w
theorem rowS_size (g c : Nat) (w : ByteArray) : (rowS g c w).size = 1 + g + c + w.size := by
  unfold rowS; rw [size_app, size_app, size_app, manyS_size, manyS_size]; rfl
theorem rowS_0 (g c : Nat) (w : ByteArray) : bt (rowS g c w) 0 = 10 := by
  unfold rowS; rw [ByteArray.append_assoc, ByteArray.append_assoc]; exact bt_lf _
theorem row_is {S X w : ByteArray} {g c : Nat} (hw : OkW w) (hX : X.size = 0 ∨ bt X 0 = 10) : RowIs (S ++ rowS g c w ++ X) S.size g c w := by
  have hz1 := size_app S (rowS g c w)
  have hz2 := size_app (S ++ rowS g c w) X
  have hrs := rowS_size g c w
  have hin : ∀ j, j < (rowS g c w).size → bt (S ++ rowS g c w ++ X) (S.size + j) = bt (rowS g c w) j := fun j hj => by
    rw [bt_left (by omega), bt_right (by omega) (by omega), Nat.add_sub_cancel_left]
  have hg : ∀ j, j < g → bt (rowS g c w) (1 + j) = 10 := fun j hj => by
    have e := size_app (⟨#[10]⟩ ++ manyS 10 g) (manyS 32 c)
    have e2 := size_app (⟨#[10]⟩ : ByteArray) (manyS 10 g)
    have e3 := manyS_size 10 g
    have e4 : (⟨#[10]⟩ : ByteArray).size = 1 := rfl
    unfold rowS
    rw [bt_left (by omega), bt_left (by omega), bt_right (by omega) (by omega), show 1 + j - (⟨#[10]⟩ : ByteArray).size = j from by omega]
    exact manyS_bt 10 g j hj
  have hb : ∀ j, j < c → bt (rowS g c w) (1 + g + j) = 32 := fun j hj => by
    have e := size_app (⟨#[10]⟩ ++ manyS 10 g) (manyS 32 c)
    have e2 := size_app (⟨#[10]⟩ : ByteArray) (manyS 10 g)
    have e3 := manyS_size 10 g
    have e5 := manyS_size 32 c
    have e4 : (⟨#[10]⟩ : ByteArray).size = 1 := rfl
    unfold rowS
    rw [bt_left (by omega), bt_right (by omega) (by omega), show 1 + g + j - ((⟨#[10]⟩ : ByteArray) ++ manyS 10 g).size = j from by omega]
    exact manyS_bt 32 c j hj
  have hwd : ∀ j, j < w.size → bt (rowS g c w) (1 + g + c + j) = bt w j := fun j hj => by
    have e := size_app (⟨#[10]⟩ ++ manyS 10 g) (manyS 32 c)
    have e2 := size_app (⟨#[10]⟩ : ByteArray) (manyS 10 g)
    have e3 := manyS_size 10 g
    have e5 := manyS_size 32 c
    have e4 : (⟨#[10]⟩ : ByteArray).size = 1 := rfl
    unfold rowS
    rw [bt_right (by omega) (by omega), show 1 + g + c + j - ((⟨#[10]⟩ : ByteArray) ++ manyS 10 g ++ manyS 32 c).size = j from by omega]
  refine ⟨?_, fun j hj => ?_, fun j hj => ?_, hw, ?_, fun j hj => ?_, ?_⟩
  · have := hin 0 (by omega)
    rw [Nat.add_zero] at this
    rw [this]; exact rowS_0 g c w
  · rw [show S.size + 1 + j = S.size + (1 + j) from by omega, hin _ (by omega)]; exact hg j hj
  · rw [show S.size + 1 + g + j = S.size + (1 + g + j) from by omega, hin _ (by omega)]; exact hb j hj
  · omega
  · rw [show S.size + 1 + g + c + j = S.size + (1 + g + c + j) from by omega, hin _ (by omega)]; exact hwd j hj
  · exact fin_of (S := S ++ rowS g c w) (by omega) hX
theorem top_reps {P : List ByteArray} {acc : ByteArray} {bl : Nat} (h : Mid P acc bl) : ∀ g, Mid (P ++ List.replicate g ByteArray.empty) acc (bl + g)
  | 0 => by rw [List.replicate_zero, List.append_nil]; exact h
  | g + 1 => by
    have := mid_blank (top_reps h g)
    rw [List.replicate_succ', ← List.append_assoc]
    exact this
theorem wd_row {fl : Bool} {S W : ByteArray} {o : Bool} (h : Wd fl S W o) {w : ByteArray} (hw : OkW w) {g c : Nat} (hc : 0 < c) : Wd fl (S ++ rowS g c w) (W ++ gapS g ++ w) false := by
  obtain ⟨hS, P, w0, v, hw0, hT, rfl, hX⟩ := h
  have hrs := rowS_size g c w
  refine ⟨by rw [size_app]; omega, P ++ [w0] ++ List.replicate g ByteArray.empty, w, v ++ w0 ++ gapS g, hw, ?_, rfl, fun X hX2 => ?_⟩
  · have h1 := top_reps (top_word hT hw0.pos (hw0.wh 0 hw0.pos)) g
    rw [Nat.zero_add] at h1
    exact .inr ⟨_, _, h1, rfl⟩
  · have hY := hX (rowS g c w ++ X) (.inr (by rw [bt_left (by omega)]; exact rowS_0 g c w))
    rw [← ByteArray.append_assoc] at hY
    have hrow := row_is (S := S) (X := X) (g := g) (c := c) hw hX2
    have hn := hrow.next fl
    rw [decide_eq_true hc] at hn
    refine ⟨hY.1, ?_⟩
    have hr := rd_next hY.2 (by rw [hn])
    rw [hn] at hr
    simp only at hr
    rw [hrow.wd.part fl, hrow.wd.ext] at hr
    rw [size_app, hrs, show S.size + (1 + g + c + w.size) = S.size + 1 + g + c + w.size from by omega]
    exact hr
theorem top_fold {P : List ByteArray} {v w0 : ByteArray} (hT : Top P v) (hw0 : OkW w0) : foldFlow (P ++ [w0]) = v ++ w0 := (top_end hT hw0.pos (hw0.wh 0 hw0.pos)).1
/-- Nothing stands behind. -/
theorem wd_end {fl : Bool} {S W : ByteArray} {o : Bool} (h : Wd fl S W o) : readS S 0 0 fl = (W, S.size, o, 0) := by
  obtain ⟨hS, P, w0, v, hw0, hT, rfl, hX⟩ := h
  have hY := hX ByteArray.empty (.inl rfl)
  rw [ByteArray.append_empty] at hY
  rw [readS_done hY.1 hY.2 (next_end S 0 fl) (.inr (.inr (colon_none (Nat.le_refl _) (.inl rfl)))), top_fold hT hw0]
/-- A row that is not further in stands behind. -/
theorem wd_out {fl : Bool} {S W : ByteArray} {o : Bool} (h : Wd fl S W o) {w X : ByteArray} (hw : OkW w) {g : Nat} (hX2 : X.size = 0 ∨ bt X 0 = 10) : readS (S ++ rowS g 0 w ++ X) 0 0 fl = (W, S.size, o, 0) := by
  obtain ⟨hS, P, w0, v, hw0, hT, rfl, hX⟩ := h
  have hrs := rowS_size g 0 w
  have hY := hX (rowS g 0 w ++ X) (.inr (by rw [bt_left (by omega)]; exact rowS_0 g 0 w))
  rw [← ByteArray.append_assoc] at hY
  have hrow := row_is (S := S) (X := X) (g := g) (c := 0) hw hX2
  have hn := hrow.next fl
  have hz1 := size_app S (rowS g 0 w)
  have hz2 := size_app (S ++ rowS g 0 w) X
  rw [readS_done hY.1 hY.2 (by rw [hn]; rfl) (.inr (.inr (colon_none (by omega) (.inr hrow.lf)))), top_fold hT hw0]
end Bk
end Go.Proofs.Ytmmhpejnfkienaa
