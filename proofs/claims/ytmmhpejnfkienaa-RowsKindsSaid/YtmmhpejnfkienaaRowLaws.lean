/- The law RowsTells of chapter 7: its walk; what every program answers that is one. -/
import Derived.Test.YtmmhpejnfkienaaRow6
namespace Go.Proofs.Ytmmhpejnfkienaa
open Go Go.RowKit Go.PlainAid
set_option maxHeartbeats 800000 in
theorem awake7 (w : World) : Calls Try.prog 38 #[] w fun e w' => e = .returned (.bool true) ∧ w = w' := by
  have f1 : Bk.fromN ⟨#[97, 10, 98, 99]⟩ (Bk.heldN ⟨#[97, 10, 98, 99]⟩ 3) = 2 := by decide +kernel
  have f2 : Bk.toN ⟨#[97, 10, 98, 99]⟩ (Bk.heldN ⟨#[97, 10, 98, 99]⟩ 3) = 4 := by decide +kernel
  have f3 : Bk.inN ⟨#[32, 32, 97]⟩ (Bk.heldN ⟨#[32, 32, 97]⟩ 1) = 2 := by decide +kernel
  have f4 : Bk.heldN ⟨#[97, 10, 98, 99]⟩ 3 = 3 := by decide +kernel
  have f5 : Bk.kindN ⟨#[45, 45, 45, 32, 97]⟩ (Bk.heldN ⟨#[45, 45, 45, 32, 97]⟩ 2) = 3 := by decide +kernel
  have f6 : Bk.kindN ⟨#[32, 35, 32, 98]⟩ (Bk.heldN ⟨#[32, 35, 32, 98]⟩ 0) = 2 := by decide +kernel
  have f7 : Bk.aboveN ⟨#[97, 10, 10, 10, 32, 98]⟩ (Bk.heldN ⟨#[97, 10, 10, 10, 32, 98]⟩ 5) = 2 := by decide +kernel
  have f8 : Bk.fromN ⟨#[97, 10, 98, 99]⟩ 3 = 2 := by decide +kernel
  have f9 : Bk.toN ⟨#[97, 10, 98, 99]⟩ 3 = 4 := by decide +kernel
  go_enter Try.func38, Try.ntmps38
  go_wp2_with first
    | (go_at_call 39; refine (row_any _ _ _ (by decide)).mono ?_; rintro e w' ⟨rfl, rfl⟩)
    | (go_at_call 41; refine (in_any _ _ _ (by decide)).mono ?_; rintro e w' ⟨rfl, rfl⟩)
    | (go_at_call 43; refine (col_any _ _ _ (by decide)).mono ?_; rintro e w' ⟨rfl, rfl⟩)
    | (go_at_call 45; refine (kind_any _ _ _ (by decide)).mono ?_; rintro e w' ⟨rfl, rfl⟩)
    | (go_at_call 47; refine (above_any _ _ _ (by decide)).mono ?_; rintro e w' ⟨rfl, rfl⟩)
  go_ret
  exact ⟨rfl, rfl⟩
set_option maxHeartbeats 1600000 in
theorem rowsTells_walk (s : ByteArray) (a : Int) (w : World) (hs0 : s.size ≤ maxLen) :
    Calls Try.prog 6 #[.string s, .int .i64 a] w fun e w' => e = .returned (.bool true) ∧ w = w' := by
  unfold maxLen at hs0
  by_cases hl : s.size ≤ 120
  · have hs : s.size ≤ 4611686018427387903 := by omega
    clear hs0
    go_enter Try.func6, Try.ntmps6
    go_wp2
    go_loop [5] (fun i => ∃ p : Int, -1 ≤ p ∧ p ≤ (s.size : Int) + 2 ∧ i = .int .i64 p) (fun i => (s.size + 2 - intOf i).toNat)
    case atStart => exact ⟨-1, by omega, by omega, rfl⟩
    case round =>
      obtain ⟨p, hp, hp', rfl⟩ := hrel
      by_cases hlt : p ≤ (s.size : Int) + 1
      · by_cases hn : p < 0
        all_goals
          go_wp2_with first
            | (go_at_call 39; refine (row_any _ _ _ hs).mono ?_; rintro e w' ⟨rfl, rfl⟩)
            | (go_at_call 40; refine (rrow_any _ _ _ hs).mono ?_; rintro e w' ⟨rfl, rfl⟩)
            | (go_at_call 41; refine (in_any _ _ _ hs).mono ?_; rintro e w' ⟨rfl, rfl⟩)
            | (go_at_call 42; refine (rin_any _ _ _ hs).mono ?_; rintro e w' ⟨rfl, rfl⟩)
            | (go_at_call 43; refine (col_any _ _ _ hs).mono ?_; rintro e w' ⟨rfl, rfl⟩)
            | (go_at_call 44; refine (rcol_any _ _ _ hs).mono ?_; rintro e w' ⟨rfl, rfl⟩)
            | (go_at_call 45; refine (kind_any _ _ _ hs).mono ?_; rintro e w' ⟨rfl, rfl⟩)
            | (go_at_call 46; refine (rkind_any _ _ _ hs).mono ?_; rintro e w' ⟨rfl, rfl⟩)
            | (go_at_call 47; refine (above_any _ _ _ hs).mono ?_; rintro e w' ⟨rfl, rfl⟩)
            | (go_at_call 48; refine (rabove_any _ _ _ hs).mono ?_; rintro e w' ⟨rfl, rfl⟩)
          go_round
          case rel => exact ⟨p + 1, by omega, by omega, by go_num⟩
          case measure => simp [intOf]; omega
      · go_wp2_with (go_at_call 38; refine (awake7 _).mono ?_; rintro e w' ⟨rfl, rfl⟩)
        go_ret
        exact ⟨rfl, rfl⟩
  · go_enter Try.func6, Try.ntmps6
    go_wp2_with (go_at_call 38; refine (awake7 _).mono ?_; rintro e w' ⟨rfl, rfl⟩)
    go_ret
    exact ⟨rfl, rfl⟩
end Go.Proofs.Ytmmhpejnfkienaa
