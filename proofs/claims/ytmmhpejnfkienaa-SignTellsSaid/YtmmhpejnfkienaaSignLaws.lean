/- The laws SignTells and SignParts of chapter 4: walks. -/
import Derived.Test.YtmmhpejnfkienaaSign3
namespace Go.Proofs.Ytmmhpejnfkienaa
open Go Go.RowKit Go.PlainAid
set_option maxHeartbeats 1000000 in
theorem signTells_walk (c : Int) (s : ByteArray) (a : Int) (w : World) (hs : s.size ≤ maxLen) (ha : -9223372036854775808 ≤ a) (ha' : a ≤ 9223372036854775807) :
    Calls Try.prog 3 #[.int .u8 c, .string s, .int .i64 a] w fun e w' => e = .returned (.bool true) ∧ w = w' := by
  unfold maxLen at hs
  by_cases hl : s.size ≤ 100
  · have hk := Bk.lowN_lt (x := a) (n := (s.size : Int) + 2) (by omega)
    go_enter Try.func3, Try.ntmps3
    go_wp2_with first
      | (go_at_call 22; refine (white_any _ _).mono ?_; rintro e w' ⟨rfl, rfl⟩)
      | (go_at_call 23; refine (rwhite_any _ _).mono ?_; rintro e w' ⟨rfl, rfl⟩)
      | (go_at_call 24; refine (ind_any _ _).mono ?_; rintro e w' ⟨rfl, rfl⟩)
      | (go_at_call 25; refine (rind_any _ _).mono ?_; rintro e w' ⟨rfl, rfl⟩)
      | (go_at_call 26; refine (flow_any _ _).mono ?_; rintro e w' ⟨rfl, rfl⟩)
      | (go_at_call 27; refine (rflow_any _ _).mono ?_; rintro e w' ⟨rfl, rfl⟩)
      | (go_at_call 28; refine (word_any _ _).mono ?_; rintro e w' ⟨rfl, rfl⟩)
      | (go_at_call 29; refine (rword_any _ _).mono ?_; rintro e w' ⟨rfl, rfl⟩)
      | (go_at_call 30; refine (uri_any _ _).mono ?_; rintro e w' ⟨rfl, rfl⟩)
      | (go_at_call 31; refine (ruri_any _ _).mono ?_; rintro e w' ⟨rfl, rfl⟩)
      | (go_at_call 32; refine (low_any _ _ _ (by omega) (by omega)).mono ?_; rintro e w' ⟨rfl, rfl⟩)
      | (go_at_call 33; refine (ends_any _ _ _).mono ?_; rintro e w' ⟨rfl, rfl⟩)
      | (go_at_call 34; refine (rends_any _ _ _).mono ?_; rintro e w' ⟨rfl, rfl⟩)
      | (go_at_call 35; refine (name_any _ _ _ (by omega) (by omega) (by omega)).mono ?_; rintro e w' ⟨rfl, rfl⟩)
      | (go_at_call 36; refine (rname_any _ _ _ (by omega) (by omega)).mono ?_; rintro e w' ⟨rfl, rfl⟩)
      | (go_at_call 21; refine (awake4 _).mono ?_; rintro e w' ⟨rfl, rfl⟩)
    go_ret
    exact ⟨rfl, rfl⟩
  · go_enter Try.func3, Try.ntmps3
    go_wp2_with (go_at_call 21; refine (awake4 _).mono ?_; rintro e w' ⟨rfl, rfl⟩)
    go_ret
    exact ⟨rfl, rfl⟩
end Go.Proofs.Ytmmhpejnfkienaa
