/- The law PropNames of chapter 14: its walk. -/
import Derived.Test.YtmmhpejnfkienaaProp6
namespace Go.Proofs.Ytmmhpejnfkienaa
open Go Go.RowKit Go.PlainAid
set_option linter.unusedVariables false
set_option linter.unusedSectionVars false
namespace Bk
theorem tab5_at : ∀ k, k < 5 → ∃ e : ByteArray, ([Value.string ⟨#[44]⟩, Value.string ⟨#[93]⟩, Value.string ⟨#[125]⟩, Value.string ⟨#[91]⟩, Value.string ⟨#[123]⟩] : List Value)[k]? = some (.string e) ∧ e.size = 1 ∧ flowB (bt e 0) = true := by
  intro k hk
  rcases (by omega : k = 0 ∨ k = 1 ∨ k = 2 ∨ k = 3 ∨ k = 4) with rfl | rfl | rfl | rfl | rfl
  all_goals exact ⟨_, rfl, rfl, by decide +kernel⟩
section
variable {a t c : ByteArray} (ha : a.size = 1) (ht : ∀ j, j < t.size → stopB (bt t j) = false) (hc : c.size = 1) (hf : flowB (bt c 0) = true)
include ha hc
theorem atc_size : (a ++ t ++ c).size = t.size + 2 := by rw [size_app, size_app, ha, hc]; omega
theorem atc_a : bt (a ++ t ++ c) 0 = bt a 0 := by rw [bt_left (by rw [size_app]; omega), bt_left (by omega)]
theorem atc_t {j : Nat} (h : j < t.size) : bt (a ++ t ++ c) (1 + j) = bt t j := by
  rw [bt_left (by rw [size_app]; omega), bt_right (by omega) (by omega), ha, Nat.add_sub_cancel_left]
theorem atc_c : bt (a ++ t ++ c) (1 + t.size) = bt c 0 := by
  have := size_app a t
  rw [bt_right (by omega) (by omega), show 1 + t.size - (a ++ t).size = 0 from by omega]
theorem atc_ext : (a ++ t ++ c).extract 1 (1 + t.size) = t := by
  apply ByteArray.ext
  have h1 : a.data.toList.length = 1 := by simpa using ha
  have h2 : t.data.toList.length = t.size := by simp
  apply Array.toList_inj.1
  simp only [ByteArray.data_extract, ByteArray.data_append, Array.toList_extract, Array.toList_append, List.extract_eq_take_drop]
  rw [show 1 + t.size - 1 = t.size from by omega, List.append_assoc, List.drop_append_of_le_length (by omega), List.drop_of_length_le (by omega), List.nil_append, List.take_append_of_le_length (by omega), List.take_of_length_le (by omega)]
include ht hf
theorem atc_name : nameN (a ++ t ++ c) ((0 + 1 : Nat) : Int) = t.size := by
  have hz := atc_size (t := t) ha hc
  refine nameN_eq (fun j hj => ?_) (fun _ => ?_)
  · rw [atc_t ha hc hj]; exact ⟨by omega, ht j hj⟩
  · rw [atc_c ha hc]; unfold stopB; rw [hf]; simp
theorem atc_ends : endsB (a ++ t ++ c) ((0 + 1 + t.size : Nat) : Int) = false := by
  have hz := atc_size (t := t) ha hc
  have hcs : bt c 0 = 44 ∨ bt c 0 = 91 ∨ bt c 0 = 93 ∨ bt c 0 = 123 ∨ bt c 0 = 125 := by simpa [flowB, or_assoc] using hf
  have := ends_in (s := a ++ t ++ c) (k := 0 + 1 + t.size) (by omega)
  rw [this, Nat.zero_add, atc_c ha hc]
  rcases hcs with h | h | h | h | h <;> rw [h] <;> rfl
theorem atc_first : firstN (a ++ t ++ c) (0 + 1 + t.size) (a ++ t ++ c).size = 0 + 1 + t.size := by
  have hz := atc_size (t := t) ha hc
  have hcs : bt c 0 = 44 ∨ bt c 0 = 91 ∨ bt c 0 = 93 ∨ bt c 0 = 123 ∨ bt c 0 = 125 := by simpa [flowB, or_assoc] using hf
  refine firstN_eq (Nat.le_refl _) (by omega) (fun j h1 h2 => by omega) (fun _ => ?_)
  rw [Nat.zero_add, atc_c ha hc]
  rcases hcs with h | h | h | h | h <;> rw [h] <;> rfl
theorem anchor_none (h38 : bt a 0 = 38) (h0 : t.size = 0) (fl : Bool) : readI (a ++ t ++ c) 0 fl = (ByteArray.empty, ByteArray.empty, 0, 5) := by
  have hz := atc_size (t := t) ha hc
  have hn := atc_name ha ht hc hf
  have ha0 := atc_a (t := t) ha hc
  have hb : (bt (a ++ t ++ c) 0 == 38) = true := by rw [ha0, h38]; rfl
  have key : readP (a ++ t ++ c) fl ((a ++ t ++ c).size + 1) 0 ByteArray.empty ByteArray.empty 0 = (ByteArray.empty, ByteArray.empty, 0, 5) := by
    rcases readP_step (a ++ t ++ c) fl (a ++ t ++ c).size 0 ByteArray.empty ByteArray.empty 0 with ⟨hw, H⟩ | ⟨hlt, b38, q0, H⟩ | ⟨hlt, b38, q0, qa, H⟩ | ⟨hlt, b38, q0, qa, H⟩ | ⟨hlt, b38, b33, q, H⟩ | ⟨hlt, b38, b33, q, H⟩
    · rcases hw with hw | hw
      · omega
      · rw [hb] at hw; exact Bool.noConfusion hw.2.1
    · exact H.out
    · rw [hn] at q0; omega
    · rw [hn] at q0; omega
    · rw [hb] at b38; exact Bool.noConfusion b38
    · rw [hb] at b38; exact Bool.noConfusion b38
  unfold readI
  rw [if_neg (by omega)]
  show ((readP (a ++ t ++ c) fl ((a ++ t ++ c).size + 1) 0 ByteArray.empty ByteArray.empty 0).1, _, _, _) = _
  simp only [Int.toNat_zero, key]
  rfl
theorem anchor_some (h38 : bt a 0 = 38) (h0 : 0 < t.size) (fl : Bool) : readI (a ++ t ++ c) 0 fl = if fl = true then (t, ByteArray.empty, (t.size : Int) + 1, 0) else (ByteArray.empty, ByteArray.empty, (t.size : Int) + 1, 5) := by
  have hz := atc_size (t := t) ha hc
  have hn := atc_name ha ht hc hf
  have he := atc_ends ha ht hc hf
  have hfi := atc_first ha ht hc hf
  have hx := atc_ext (t := t) ha hc
  have hcc := atc_c (t := t) ha hc
  have ha0 := atc_a (t := t) ha hc
  have hb : (bt (a ++ t ++ c) 0 == 38) = true := by rw [ha0, h38]; rfl
  have key : readP (a ++ t ++ c) fl ((a ++ t ++ c).size + 1) 0 ByteArray.empty ByteArray.empty 0 = if fl = true then (t, ByteArray.empty, 0 + 1 + t.size, 0) else (ByteArray.empty, ByteArray.empty, 0 + 1 + t.size, 5) := by
    rcases readP_step (a ++ t ++ c) fl (a ++ t ++ c).size 0 ByteArray.empty ByteArray.empty 0 with ⟨hw, H⟩ | ⟨hlt, b38, q0, H⟩ | ⟨hlt, b38, q0, qa, H⟩ | ⟨hlt, b38, q0, qa, H⟩ | ⟨hlt, b38, b33, q, H⟩ | ⟨hlt, b38, b33, q, H⟩
    · rcases hw with hw | hw
      · omega
      · rw [hb] at hw; exact Bool.noConfusion hw.2.1
    · rw [hn] at q0; omega
    · exact absurd qa (by rw [Lib.toList_data]; decide)
    · rw [H.out, hn, he, hfi]
      simp only [Nat.zero_add]
      rw [hcc, hf]
      cases fl
      · simp
      · simp [hx]
    · rw [hb] at b38; exact Bool.noConfusion b38
    · rw [hb] at b38; exact Bool.noConfusion b38
  unfold readI
  rw [if_neg (by omega)]
  simp only [Int.toNat_zero, key]
  cases fl
  · simp; omega
  · simp; omega
theorem alias_none (h42 : bt a 0 = 42) (h0 : t.size = 0) : aliasI (a ++ t ++ c) 0 = (ByteArray.empty, 0, 5) := by
  have hn := atc_name ha ht hc hf
  unfold aliasI
  rw [if_neg]
  rintro ⟨_, _, _, q⟩
  exact q (hn.trans h0)
theorem alias_some (h42 : bt a 0 = 42) (h0 : 0 < t.size) : aliasI (a ++ t ++ c) 0 = (t, (t.size : Int) + 1, 0) := by
  have hz := atc_size (t := t) ha hc
  have hn := atc_name ha ht hc hf
  have hx := atc_ext (t := t) ha hc
  have ha0 := atc_a (t := t) ha hc
  have hn2 : nameN (a ++ t ++ c) (0 + 1) = t.size := hn
  unfold aliasI
  rw [if_pos ⟨by omega, by omega, by rw [Int.toNat_zero, ha0]; exact h42, by rw [hn2]; omega⟩, hn2]
  simp only [Int.toNat_zero, Nat.zero_add, hx]
  congr 2
  omega
end
end Bk
end Go.Proofs.Ytmmhpejnfkienaa
