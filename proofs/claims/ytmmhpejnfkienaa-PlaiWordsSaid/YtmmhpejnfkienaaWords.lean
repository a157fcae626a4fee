/- WordOf: its contract; words on rows with blank ones between: what they come to. Plain. -/
import Derived.Test.YtmmhpejnfkienaaFold8
import Derived.Test.YtmmhpejnfkienaaPropTells
namespace Go.Proofs.Ytmmhpejnfkienaa
open Go Go.RowKit Go.PlainAid
set_option linter.unusedVariables false
namespace Bk
def w10 : List ByteArray := [⟨#[97]⟩, ⟨#[98, 99]⟩, ⟨#[100, 45, 101]⟩, ⟨#[102, 95, 103]⟩, ⟨#[104, 49]⟩, ⟨#[120, 121, 122]⟩, ⟨#[195, 169]⟩, ⟨#[107, 35, 108]⟩, ⟨#[109, 58, 110]⟩, ⟨#[111, 46, 112]⟩]
def wordS (x : Int) : ByteArray := w10.getD (lowN x 10) ByteArray.empty
theorem w10_at : ∀ k, k < 10 → ([Value.string ⟨#[97]⟩, Value.string ⟨#[98, 99]⟩, Value.string ⟨#[100, 45, 101]⟩, Value.string ⟨#[102, 95, 103]⟩, Value.string ⟨#[104, 49]⟩, Value.string ⟨#[120, 121, 122]⟩, Value.string ⟨#[195, 169]⟩, Value.string ⟨#[107, 35, 108]⟩, Value.string ⟨#[109, 58, 110]⟩, Value.string ⟨#[111, 46, 112]⟩] : List Value)[k]? = some (.string (w10.getD k ByteArray.empty)) ∧
    (w10.getD k ByteArray.empty).size ≤ 3 ∧ 1 ≤ (w10.getD k ByteArray.empty).size ∧ whiteB (bt (w10.getD k ByteArray.empty) 0) = false := by
  intro k hk
  rcases (by omega : k = 0 ∨ k = 1 ∨ k = 2 ∨ k = 3 ∨ k = 4 ∨ k = 5 ∨ k = 6 ∨ k = 7 ∨ k = 8 ∨ k = 9) with rfl | rfl | rfl | rfl | rfl | rfl | rfl | rfl | rfl | rfl
  all_goals exact ⟨rfl, by decide, by decide, by decide +kernel⟩
theorem wordS_is (x : Int) : (wordS x).size ≤ 3 ∧ 1 ≤ (wordS x).size ∧ whiteB (bt (wordS x) 0) = false :=
  (w10_at (lowN x 10) (by have := lowN_lt (x := x) (n := 10) (by omega); omega)).2
theorem row_mid (P R : List ByteArray) (r : ByteArray) : rowAt (P ++ r :: R) P.length = r := by
  unfold rowAt
  rw [List.getD_eq_getElem?_getD, List.getElem?_append_right (Nat.le_refl _), Nat.sub_self]
  rfl
theorem row_app {P : List ByteArray} {w : ByteArray} {M : Nat} (h : ∀ j, (rowAt P j).size ≤ M) (hw : w.size ≤ M) : ∀ j, (rowAt (P ++ [w]) j).size ≤ M := by
  intro j
  have hj := h j
  unfold rowAt at hj ⊢
  rw [List.getD_eq_getElem?_getD] at hj ⊢
  rcases Nat.lt_or_ge j P.length with h1 | h1
  · rw [List.getElem?_append_left h1]; exact hj
  · rw [List.getElem?_append_right h1]
    cases e : j - P.length with
    | zero => exact hw
    | succ n => exact Nat.zero_le _
/-- Rows that something stands behind: what they come to. -/
def Mid (P : List ByteArray) (acc : ByteArray) (bl : Nat) : Prop :=
  (∀ R, R ≠ [] → flowSt (P ++ R) P.length = (acc, bl)) ∧ (∃ la : ByteArray, 0 < la.size ∧ whiteB (bt la 0) = false ∧ ∀ R, blockSt (P ++ R) P.length = (acc, bl, la)) ∧ 0 < P.length
def Top (P : List ByteArray) (want : ByteArray) : Prop := (P = [] ∧ want = ByteArray.empty) ∨ ∃ acc bl, Mid P acc bl ∧ want = acc ++ gapS bl
theorem top_flow {P : List ByteArray} {want w : ByteArray} (h : Top P want) (hw : 0 < w.size) (R : List ByteArray) : flowSt (P ++ w :: R) (P.length + 1) = (want ++ w, 0) := by
  rw [flowSt, row_mid, if_neg (by omega)]
  rcases h with ⟨rfl, rfl⟩ | ⟨acc, bl, hm, rfl⟩
  · rw [if_neg (by simp)]; rfl
  · rw [if_pos hm.2.2, hm.1 (w :: R) (by simp)]
theorem top_block {P : List ByteArray} {want w : ByteArray} (h : Top P want) (hw : 0 < w.size) (hn : whiteB (bt w 0) = false) (R : List ByteArray) : blockSt (P ++ w :: R) (P.length + 1) = (want ++ w, 0, w) := by
  rw [blockSt, row_mid, if_neg (by omega)]
  rcases h with ⟨rfl, rfl⟩ | ⟨acc, bl, hm, rfl⟩
  · show (ByteArray.empty ++ midS ByteArray.empty w 0 ++ w, 0, w) = _
    rw [midS, if_pos (show ByteArray.empty.size = 0 from rfl)]; rfl
  · obtain ⟨la, hl, hlw, hb⟩ := hm.2.1
    rw [hb (w :: R)]
    show (acc ++ midS la w bl ++ w, 0, w) = _
    rw [midS, if_neg (by omega), hlw, hn, Bool.false_or, if_neg (by decide)]
theorem top_word {P : List ByteArray} {want w : ByteArray} (h : Top P want) (hw : 0 < w.size) (hn : whiteB (bt w 0) = false) : Mid (P ++ [w]) (want ++ w) 0 := by
  refine ⟨fun R _ => ?_, ⟨w, hw, hn, fun R => ?_⟩, by simp⟩
  · rw [List.append_assoc, List.length_append]; exact top_flow h hw R
  · rw [List.append_assoc, List.length_append]; exact top_block h hw hn R
theorem mid_blank {P : List ByteArray} {acc : ByteArray} {bl : Nat} (h : Mid P acc bl) : Mid (P ++ [⟨#[]⟩]) acc (bl + 1) := by
  obtain ⟨h1, ⟨la, hl, hlw, hb⟩, hp⟩ := h
  refine ⟨fun R hR => ?_, ⟨la, hl, hlw, fun R => ?_⟩, by simp⟩
  · have hlen : 0 < R.length := by
      cases R with
      | nil => exact absurd rfl hR
      | cons a l => simp
    rw [List.append_assoc, List.length_append]
    show flowSt (P ++ ⟨#[]⟩ :: R) (P.length + 1) = _
    rw [flowSt, row_mid, if_pos ⟨rfl, hp, by simp; omega⟩, h1 (⟨#[]⟩ :: R) (by simp)]
  · rw [List.append_assoc, List.length_append]
    show blockSt (P ++ ⟨#[]⟩ :: R) (P.length + 1) = _
    rw [blockSt, row_mid, if_pos (show (⟨#[]⟩ : ByteArray).size = 0 from rfl), hb (⟨#[]⟩ :: R)]
theorem top_end {P : List ByteArray} {want w : ByteArray} (h : Top P want) (hw : 0 < w.size) (hn : whiteB (bt w 0) = false) :
    foldFlow (P ++ [w]) = want ++ w ∧ foldBlock (P ++ [w]) = want ++ w := by
  constructor
  · unfold foldFlow
    rw [List.length_append]
    show (flowSt (P ++ w :: []) (P.length + 1)).1 = _
    rw [top_flow h hw []]
  · unfold foldBlock
    rw [List.length_append]
    show (blockSt (P ++ w :: []) (P.length + 1)).1 ++ manyS 10 (if (blockSt (P ++ w :: []) (P.length + 1)).2.2.size = 0 then (blockSt (P ++ w :: []) (P.length + 1)).2.1 - 1 else (blockSt (P ++ w :: []) (P.length + 1)).2.1) = _
    rw [top_block h hw hn []]
    show want ++ w ++ manyS 10 (if w.size = 0 then _ else _) = _
    rw [if_neg (by omega)]
    show want ++ w ++ ByteArray.empty = _
    rw [ByteArray.append_empty]
end Bk
set_option maxHeartbeats 800000 in
theorem wordOf_any (x : Int) (w : World) :
    Calls Try.prog 59 #[.int .i64 x] w fun e w' => e = .returned (.string (Bk.wordS x)) ∧ Below w.heap.size w w' := by
  have hk := Bk.lowN_lt (x := x) (n := 10) (by omega)
  obtain ⟨hc, _, _, _⟩ := Bk.w10_at (Bk.lowN x 10) (by omega)
  have HS : Hid (Bk.w10.getD (Bk.lowN x 10) ByteArray.empty = Bk.wordS x) := Lib.hid rfl
  rw [HS.out] at hc
  go_enter Try.func59, Try.ntmps59
  go_wp2_with (go_at_call 32; refine (low_any _ _ _ (by omega) (by omega)).mono ?_; rintro e w' ⟨rfl, rfl⟩)
  go_ret
  exact ⟨rfl, by go_grown⟩
end Go.Proofs.Ytmmhpejnfkienaa
