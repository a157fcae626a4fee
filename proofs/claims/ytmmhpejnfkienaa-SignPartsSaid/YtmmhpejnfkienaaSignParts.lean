/- The law SignParts of chapter 4: its walk. -/
import Derived.Test.YtmmhpejnfkienaaSign3
namespace Go.Proofs.Ytmmhpejnfkienaa
open Go Go.RowKit Go.PlainAid
namespace Bk
theorem flow_ind {c : Int} (h : flowB c = true) : indB c = true := by simp [indB, h]
theorem word_uri {c : Int} (h : wordB c = true) : uriB c = true := by simp [uriB, h]
theorem white_cases {c : Int} (h : whiteB c = true) : c = 32 ∨ c = 9 := by simpa [whiteB] using h
theorem high_ind {c : Int} (h : 128 ≤ c) : indB c = false := by simp [indB, flowB]; omega
theorem high_uri {c : Int} (h : 128 ≤ c) : uriB c = false := by simp [uriB, wordB]; omega
theorem word_of {c : Int} (h : (97 ≤ c ∧ c ≤ 122) ∨ (65 ≤ c ∧ c ≤ 90) ∨ (48 ≤ c ∧ c ≤ 57)) : wordB c = true ∧ whiteB c = false ∧ indB c = false ∧ flowB c = false := by
  simp [wordB, whiteB, indB, flowB]; omega
theorem word_no {c : Int} (h : (c < 48 ∧ c ≠ 45) ∨ (58 ≤ c ∧ c ≤ 64) ∨ (91 ≤ c ∧ c ≤ 96) ∨ (123 ≤ c)) : wordB c = false := by
  simp [wordB]; omega
end Bk
set_option maxHeartbeats 1000000 in
theorem parts_word (c : Int) (w : World) (hc : 0 ≤ c) (hc' : c ≤ 255) (h : (97 ≤ c ∧ c ≤ 122) ∨ (65 ≤ c ∧ c ≤ 90) ∨ (48 ≤ c ∧ c ≤ 57)) :
    Calls Try.prog 4 #[.int .u8 c] w fun e w' => e = .returned (.bool true) ∧ w = w' := by
  obtain ⟨h1, h2, h3, h4⟩ := Bk.word_of h
  have h5 := Bk.word_uri h1
  rcases h with ⟨ha, hb⟩ | ⟨ha, hb⟩ | ⟨ha, hb⟩
  all_goals
    go_enter Try.func4, Try.ntmps4
    go_wp2_with first
      | (go_at_call 22; refine (white_any _ _).mono ?_; rintro e w' ⟨rfl, rfl⟩)
      | (go_at_call 24; refine (ind_any _ _).mono ?_; rintro e w' ⟨rfl, rfl⟩)
      | (go_at_call 26; refine (flow_any _ _).mono ?_; rintro e w' ⟨rfl, rfl⟩)
      | (go_at_call 28; refine (word_any _ _).mono ?_; rintro e w' ⟨rfl, rfl⟩)
      | (go_at_call 30; refine (uri_any _ _).mono ?_; rintro e w' ⟨rfl, rfl⟩)
      | (go_at_call 21; refine (awake4 _).mono ?_; rintro e w' ⟨rfl, rfl⟩)
    go_ret
    first | exact ⟨rfl, rfl⟩ | exact ⟨ret_bool (by simp; omega), rfl⟩
set_option maxHeartbeats 1000000 in
theorem parts_one (c : Int) (w : World) (h : c = 45 ∨ c = 32 ∨ c = 9) :
    Calls Try.prog 4 #[.int .u8 c] w fun e w' => e = .returned (.bool true) ∧ w = w' := by
  rcases h with rfl | rfl | rfl
  · have h1 : Bk.whiteB 45 = false := by decide
    have h2 : Bk.indB 45 = true := by decide
    have h3 : Bk.flowB 45 = false := by decide
    have h4 : Bk.wordB 45 = true := by decide
    have h5 : Bk.uriB 45 = true := by decide
    go_enter Try.func4, Try.ntmps4
    go_wp2_with first
      | (go_at_call 22; refine (white_any _ _).mono ?_; rintro e w' ⟨rfl, rfl⟩)
      | (go_at_call 24; refine (ind_any _ _).mono ?_; rintro e w' ⟨rfl, rfl⟩)
      | (go_at_call 26; refine (flow_any _ _).mono ?_; rintro e w' ⟨rfl, rfl⟩)
      | (go_at_call 28; refine (word_any _ _).mono ?_; rintro e w' ⟨rfl, rfl⟩)
      | (go_at_call 30; refine (uri_any _ _).mono ?_; rintro e w' ⟨rfl, rfl⟩)
      | (go_at_call 21; refine (awake4 _).mono ?_; rintro e w' ⟨rfl, rfl⟩)
    go_ret
    first | exact ⟨rfl, rfl⟩ | exact ⟨ret_bool (by simp; omega), rfl⟩
  · have h1 : Bk.whiteB 32 = true := by decide
    have h2 : Bk.indB 32 = false := by decide
    have h3 : Bk.flowB 32 = false := by decide
    have h4 : Bk.wordB 32 = false := by decide
    have h5 : Bk.uriB 32 = false := by decide
    go_enter Try.func4, Try.ntmps4
    go_wp2_with first
      | (go_at_call 22; refine (white_any _ _).mono ?_; rintro e w' ⟨rfl, rfl⟩)
      | (go_at_call 24; refine (ind_any _ _).mono ?_; rintro e w' ⟨rfl, rfl⟩)
      | (go_at_call 26; refine (flow_any _ _).mono ?_; rintro e w' ⟨rfl, rfl⟩)
      | (go_at_call 28; refine (word_any _ _).mono ?_; rintro e w' ⟨rfl, rfl⟩)
      | (go_at_call 30; refine (uri_any _ _).mono ?_; rintro e w' ⟨rfl, rfl⟩)
      | (go_at_call 21; refine (awake4 _).mono ?_; rintro e w' ⟨rfl, rfl⟩)
    go_ret
    first | exact ⟨rfl, rfl⟩ | exact ⟨ret_bool (by simp; omega), rfl⟩
  · have h1 : Bk.whiteB 9 = true := by decide
    have h2 : Bk.indB 9 = false := by decide
    have h3 : Bk.flowB 9 = false := by decide
    have h4 : Bk.wordB 9 = false := by decide
    have h5 : Bk.uriB 9 = false := by decide
    go_enter Try.func4, Try.ntmps4
    go_wp2_with first
      | (go_at_call 22; refine (white_any _ _).mono ?_; rintro e w' ⟨rfl, rfl⟩)
      | (go_at_call 24; refine (ind_any _ _).mono ?_; rintro e w' ⟨rfl, rfl⟩)
      | (go_at_call 26; refine (flow_any _ _).mono ?_; rintro e w' ⟨rfl, rfl⟩)
      | (go_at_call 28; refine (word_any _ _).mono ?_; rintro e w' ⟨rfl, rfl⟩)
      | (go_at_call 30; refine (uri_any _ _).mono ?_; rintro e w' ⟨rfl, rfl⟩)
      | (go_at_call 21; refine (awake4 _).mono ?_; rintro e w' ⟨rfl, rfl⟩)
    go_ret
    first | exact ⟨rfl, rfl⟩ | exact ⟨ret_bool (by simp; omega), rfl⟩
set_option maxHeartbeats 4000000 in
theorem parts_else (c : Int) (w : World) (hc : 0 ≤ c) (hc' : c ≤ 255) (hwh : Bk.whiteB c = false) (hwd : Bk.wordB c = false) (h : c < 48 ∧ c < 45 ∨ c < 48 ∧ 46 ≤ c ∨ (58 ≤ c ∧ c ≤ 64) ∨ (91 ≤ c ∧ c ≤ 96) ∨ (123 ≤ c ∧ c < 128)) :
    Calls Try.prog 4 #[.int .u8 c] w fun e w' => e = .returned (.bool true) ∧ w = w' := by
  rcases h with ⟨ha, hb⟩ | ⟨ha, hb⟩ | ⟨ha, hb⟩ | ⟨ha, hb⟩ | ⟨ha, hb⟩ <;> cases h1 : Bk.flowB c <;> cases h2 : Bk.indB c <;> cases h3 : Bk.uriB c <;> first
    | (exfalso; exact Bool.noConfusion (h2.symm.trans (Bk.flow_ind h1)))
    | skip
  all_goals
    go_enter Try.func4, Try.ntmps4
    go_wp2_with first
      | (go_at_call 22; refine (white_any _ _).mono ?_; rintro e w' ⟨rfl, rfl⟩)
      | (go_at_call 24; refine (ind_any _ _).mono ?_; rintro e w' ⟨rfl, rfl⟩)
      | (go_at_call 26; refine (flow_any _ _).mono ?_; rintro e w' ⟨rfl, rfl⟩)
      | (go_at_call 28; refine (word_any _ _).mono ?_; rintro e w' ⟨rfl, rfl⟩)
      | (go_at_call 30; refine (uri_any _ _).mono ?_; rintro e w' ⟨rfl, rfl⟩)
      | (go_at_call 21; refine (awake4 _).mono ?_; rintro e w' ⟨rfl, rfl⟩)
    go_ret
    first | exact ⟨rfl, rfl⟩ | exact ⟨ret_bool (by simp; omega), rfl⟩
set_option maxHeartbeats 1000000 in
theorem parts_high (c : Int) (w : World) (hc' : c ≤ 255) (hwh : Bk.whiteB c = false) (hwd : Bk.wordB c = false) (h : 128 ≤ c) :
    Calls Try.prog 4 #[.int .u8 c] w fun e w' => e = .returned (.bool true) ∧ w = w' := by
  have h1 := Bk.high_ind h
  have h2 := Bk.high_uri h
  cases h3 : Bk.flowB c
  · go_enter Try.func4, Try.ntmps4
    go_wp2_with first
      | (go_at_call 22; refine (white_any _ _).mono ?_; rintro e w' ⟨rfl, rfl⟩)
      | (go_at_call 24; refine (ind_any _ _).mono ?_; rintro e w' ⟨rfl, rfl⟩)
      | (go_at_call 26; refine (flow_any _ _).mono ?_; rintro e w' ⟨rfl, rfl⟩)
      | (go_at_call 28; refine (word_any _ _).mono ?_; rintro e w' ⟨rfl, rfl⟩)
      | (go_at_call 30; refine (uri_any _ _).mono ?_; rintro e w' ⟨rfl, rfl⟩)
      | (go_at_call 21; refine (awake4 _).mono ?_; rintro e w' ⟨rfl, rfl⟩)
    go_ret
    first | exact ⟨rfl, rfl⟩ | exact ⟨ret_bool (by simp; omega), rfl⟩
  · exfalso; exact Bool.noConfusion (h1.symm.trans (Bk.flow_ind h3))
theorem signParts_walk (c : Int) (w : World) (hc : 0 ≤ c) (hc' : c ≤ 255) :
    Calls Try.prog 4 #[.int .u8 c] w fun e w' => e = .returned (.bool true) ∧ w = w' := by
  by_cases h : (97 ≤ c ∧ c ≤ 122) ∨ (65 ≤ c ∧ c ≤ 90) ∨ (48 ≤ c ∧ c ≤ 57)
  · exact parts_word c w hc hc' h
  · by_cases h1 : c = 45 ∨ c = 32 ∨ c = 9
    · exact parts_one c w h1
    · have hwh : Bk.whiteB c = false := by simp [Bk.whiteB]; omega
      have hwd : Bk.wordB c = false := Bk.word_no (by omega)
      by_cases h2 : 128 ≤ c
      · exact parts_high c w hc' hwh hwd h2
      · exact parts_else c w hc hc' hwh hwd (by omega)
end Go.Proofs.Ytmmhpejnfkienaa
