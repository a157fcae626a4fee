/- The reference's Hex, unit, handle, suffix: contracts. -/
import Derived.Test.YtmmhpejnfkienaaHand2
namespace Go.Proofs.Ytmmhpejnfkienaa
open Go Go.RowKit Go.PlainAid
namespace Bk
/-- What a hex digit tells; -1. -/
def hexI (c : Int) : Int := if 48 ≤ c ∧ c ≤ 57 then c - 48 else if 97 ≤ c ∧ c ≤ 102 then c - 97 + 10 else if 65 ≤ c ∧ c ≤ 70 then c - 65 + 10 else -1
theorem hexI_yes {c : Int} (h : hexB c = true) : 0 ≤ hexI c := by
  have : (48 ≤ c ∧ c ≤ 57) ∨ (97 ≤ c ∧ c ≤ 102) ∨ (65 ≤ c ∧ c ≤ 70) := by simpa [hexB, or_assoc] using h
  unfold hexI
  split
  · omega
  · split
    · omega
    · split <;> omega
theorem hexI_no {c : Int} (h : hexB c = false) : hexI c = -1 := by
  have : ¬ ((48 ≤ c ∧ c ≤ 57) ∨ (97 ≤ c ∧ c ≤ 102) ∨ (65 ≤ c ∧ c ≤ 70)) := by
    intro q
    have : hexB c = true := by simpa [hexB, or_assoc] using q
    rw [h] at this; exact Bool.noConfusion this
  unfold hexI
  rw [if_neg (by omega), if_neg (by omega), if_neg (by omega)]
def unitN (s : ByteArray) (k : Nat) : Nat := if k < s.size ∧ uriB (bt s k) = true then (if bt s k = 37 then (if percB s k = true then 3 else 0) else 1) else 0
theorem hex_word {c : Int} (h : hexB c = true) : uriB c = true ∧ (c == 37) = false ∧ (c == 33) = false ∧ flowB c = false := by
  have : (48 ≤ c ∧ c ≤ 57) ∨ (97 ≤ c ∧ c ≤ 102) ∨ (65 ≤ c ∧ c ≤ 70) := by simpa [hexB, or_assoc] using h
  refine ⟨?_, ?_, ?_, ?_⟩
  · have : wordB c = true := by simp [wordB]; omega
    simp [uriB, this]
  · simp; omega
  · simp; omega
  · simp [flowB]; omega
theorem hex_ok {s : ByteArray} {t : Bool} {i : Nat} (h : hexB (bt s i) = true) : okB s t i = true := by
  obtain ⟨a, b, c, d⟩ := hex_word h
  unfold okB
  rw [a, b, c, d]; simp
theorem perc_at {s : ByteArray} {k : Nat} (h : percB s k = true) : k + 3 ≤ s.size ∧ hexB (bt s (k + 1)) = true ∧ hexB (bt s (k + 2)) = true := by
  simpa [percB, and_assoc] using h
/-- What unit tells of a place. -/
theorem unit_way (s : ByteArray) (k : Nat) : (unitN s k = 0 ∧ (k < s.size → ∀ t, okB s t k = false)) ∨
    (unitN s k = 1 ∧ k < s.size ∧ uriB (bt s k) = true ∧ (bt s k == 37) = false) ∨
    (unitN s k = 3 ∧ k + 3 ≤ s.size ∧ (∀ t, okB s t k = true) ∧ (∀ t, okB s t (k + 1) = true) ∧ (∀ t, okB s t (k + 2) = true) ∧ (bt s k == 33) = false ∧ flowB (bt s k) = false) := by
  unfold unitN
  by_cases a : k < s.size ∧ uriB (bt s k) = true
  · rw [if_pos a]
    by_cases b : bt s k = 37
    · rw [if_pos b]
      by_cases c : percB s k = true
      · rw [if_pos c]
        obtain ⟨p1, p2, p3⟩ := perc_at c
        have e1 : (bt s k == 33) = false := by rw [b]; rfl
        have e2 : flowB (bt s k) = false := by rw [b]; rfl
        refine .inr (.inr ⟨rfl, p1, fun t => ?_, fun t => hex_ok p2, fun t => hex_ok p3, e1, e2⟩)
        unfold okB; rw [a.2, c, e1, e2]; simp
      · rw [if_neg c]
        have c' : percB s k = false := by simpa using c
        refine .inl ⟨rfl, fun _ t => ?_⟩
        unfold okB; rw [c', b]; simp
    · rw [if_neg b]; exact .inr (.inl ⟨rfl, a.1, a.2, by simpa using b⟩)
  · rw [if_neg a]
    refine .inl ⟨rfl, fun hk t => ?_⟩
    have : uriB (bt s k) = false := by
      cases h : uriB (bt s k)
      · rfl
      · exact absurd ⟨hk, h⟩ a
    unfold okB; rw [this]; rfl
end Bk
set_option maxHeartbeats 400000 in
theorem rhex_any (c : Int) (w : World) (h0 : 0 ≤ c) (h1 : c ≤ 255) : Calls Try.prog 113 #[.int .u8 c] w fun e w' => e = .returned (.int .i32 (Bk.hexI c)) ∧ w = w' := by
  have HX : Hid (Bk.hexI c = if 48 ≤ c ∧ c ≤ 57 then c - 48 else if 97 ≤ c ∧ c ≤ 102 then c - 97 + 10 else if 65 ≤ c ∧ c ≤ 70 then c - 65 + 10 else -1) := Lib.hid rfl
  rcases (by omega : (48 ≤ c ∧ c ≤ 57) ∨ (97 ≤ c ∧ c ≤ 102) ∨ (65 ≤ c ∧ c ≤ 70) ∨ c < 48 ∨ (58 ≤ c ∧ c ≤ 64) ∨ (71 ≤ c ∧ c ≤ 96) ∨ 103 ≤ c) with h | h | h | h | h | h | h
  all_goals
    go_enter Try.func113, Try.ntmps113
    go_wp2
    go_ret
    exact ⟨ret_int (by rw [HX.out]; (repeat' split) <;> omega), rfl⟩
end Go.Proofs.Ytmmhpejnfkienaa
