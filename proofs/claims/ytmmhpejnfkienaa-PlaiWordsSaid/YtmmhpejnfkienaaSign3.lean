/- The reference's Name; Low; Long: contracts. -/
import Derived.Test.YtmmhpejnfkienaaSign2
namespace Go.Proofs.Ytmmhpejnfkienaa
open Go Go.RowKit Go.PlainAid
set_option maxHeartbeats 800000 in
theorem rname_any (s : ByteArray) (a : Int) (w : World) (hs : s.size ≤ 4611686018427387904) (ha' : a ≤ 9223372036854775807) :
    Calls Try.prog 36 #[.string s, .int .i64 a] w fun e w' => e = .returned (.int .i64 (Bk.nameN s a : Nat)) ∧ w = w' := by
  have hb := get_bt s
  by_cases h0 : a < 0
  · have HN : Hid (Bk.nameN s a = 0) := Lib.hid (by unfold Bk.nameN; rw [if_pos h0])
    go_enter Try.func36, Try.ntmps36
    go_wp2
    go_ret
    exact ⟨by rw [HN.out]; rfl, rfl⟩
  · obtain ⟨k, rfl⟩ := Int.eq_ofNat_of_zero_le (by omega : 0 ≤ a)
    have hd : decide ((k : Int) < 0) = false := by simp
    go_enter Try.func36, Try.ntmps36
    go_wp2
    go_loop [5] (fun i => ∃ n : Nat, (n = 0 ∨ k + n ≤ s.size) ∧ i = .int .i64 n ∧ Hid (∀ j, j < n → k + j < s.size ∧ Bk.stopB (bt s (k + j)) = false)) (fun i => s.size - (intOf i).toNat)
    case atStart => exact ⟨0, by omega, rfl, Lib.hid fun j h => absurd h (by omega)⟩
    case round =>
      obtain ⟨n, hn, rfl, H⟩ := hrel
      by_cases hlt : k + n < s.size
      · have HS := Lib.hid (Bk.stop_of hlt)
        cases hE : Bk.endsB s ((k : Int) + (n : Int)) with
        | true =>
          have HN := Lib.hid (Bk.nameN_eq H.out (fun _ => by rw [HS.out]; show (Bk.endsB s ((k : Int) + (n : Int)) || _) = true; rw [hE]; rfl))
          go_wp2_with (go_at_call 34; refine (rends_any _ _ _).mono ?_; rintro e w' ⟨rfl, rfl⟩)
          go_ret
          exact ⟨by rw [HN.out]; rfl, rfl⟩
        | false =>
          cases hF : Bk.flowB (bt s (k + n)) with
          | true =>
            have HN := Lib.hid (Bk.nameN_eq H.out (fun _ => by rw [HS.out, hF]; simp))
            go_wp2_with first | (go_at_call 34; refine (rends_any _ _ _).mono ?_; rintro e w' ⟨rfl, rfl⟩) | (go_at_call 27; refine (rflow_any _ _).mono ?_; rintro e w' ⟨rfl, rfl⟩)
            go_ret
            exact ⟨by rw [HN.out]; rfl, rfl⟩
          | false =>
            have HT := Lib.hid (show Bk.stopB (bt s (k + n)) = false by rw [HS.out]; show (Bk.endsB s ((k : Int) + (n : Int)) || _) = false; rw [hE, hF]; rfl)
            go_wp2_with first | (go_at_call 34; refine (rends_any _ _ _).mono ?_; rintro e w' ⟨rfl, rfl⟩) | (go_at_call 27; refine (rflow_any _ _).mono ?_; rintro e w' ⟨rfl, rfl⟩)
            go_round
            case rel =>
              refine ⟨n + 1, by omega, by go_num, Lib.hid fun j hj => ?_⟩
              by_cases e : j = n
              · subst e; exact ⟨hlt, HT.out⟩
              · exact H.out j (by omega)
            case measure => simp [intOf]; omega
      · have HN := Lib.hid (Bk.nameN_eq H.out (fun h => absurd h hlt))
        go_wp2
        go_ret
        exact ⟨by rw [HN.out]; rfl, rfl⟩
namespace Bk
/-- Two to the power of 64. -/
def two64 : Int := 18446744073709551616
/-- Low of chapter 0: a number from 0 to below n. -/
def lowN (x n : Int) : Nat := (x % two64 % n).toNat
theorem lowN_lt {x : Int} {n : Int} (h : 0 < n) : (lowN x n : Int) < n := by
  unfold lowN
  have h1 := Int.emod_nonneg (x % two64) (by omega : n ≠ 0)
  have h2 := Int.emod_lt_of_pos (x % two64) h
  omega
theorem low_walk {x n : Int} (hn : 1 ≤ n) (hn' : n ≤ 1000000000) : wrap64 ((IntKind.u64.wrap x).tmod n) = (lowN x n : Int) := by
  have hl := lowN_lt (x := x) (n := n) (by omega)
  have h0 : 0 ≤ IntKind.u64.wrap x := by rw [IntKind.wrap_u64]; omega
  rw [Int.tmod_eq_emod_of_nonneg h0]
  have e : IntKind.u64.wrap x % n = (lowN x n : Int) := by
    unfold lowN two64
    rw [IntKind.wrap_u64]
    have h1 := Int.emod_nonneg (x % 18446744073709551616) (by omega : n ≠ 0)
    omega
  rw [e]
  exact IntWalk.wrap64_in _ ⟨by omega, by omega⟩
end Bk
theorem ret_int {k : IntKind} {a b : Int} (h : a = b) : Ending.returned (.int k a) = .returned (.int k b) := by rw [h]
set_option maxHeartbeats 400000 in
theorem low_any (x n : Int) (w : World) (hn : 1 ≤ n) (hn' : n ≤ 1000000000) :
    Calls Try.prog 32 #[.int .i64 x, .int .i64 n] w fun e w' => e = .returned (.int .i64 (Bk.lowN x n : Nat)) ∧ w = w' := by
  go_enter Try.func32, Try.ntmps32
  go_wp2
  go_ret
  exact ⟨ret_int (Bk.low_walk hn hn'), rfl⟩
set_option maxHeartbeats 400000 in
theorem awake4 (w : World) : Calls Try.prog 21 #[] w fun e w' => e = .returned (.bool true) ∧ w = w' := by
  go_enter Try.func21, Try.ntmps21
  go_wp2_with first
    | (go_at_call 22; refine (white_any _ _).mono ?_; rintro e w' ⟨rfl, rfl⟩)
    | (go_at_call 24; refine (ind_any _ _).mono ?_; rintro e w' ⟨rfl, rfl⟩)
    | (go_at_call 26; refine (flow_any _ _).mono ?_; rintro e w' ⟨rfl, rfl⟩)
    | (go_at_call 28; refine (word_any _ _).mono ?_; rintro e w' ⟨rfl, rfl⟩)
    | (go_at_call 30; refine (uri_any _ _).mono ?_; rintro e w' ⟨rfl, rfl⟩)
    | (go_at_call 33; refine (ends_any _ _ _).mono ?_; rintro e w' ⟨rfl, rfl⟩)
    | (go_at_call 35; refine (name_any _ _ _ (by decide) (by decide) (by decide)).mono ?_; rintro e w' ⟨rfl, rfl⟩)
  go_ret
  exact ⟨ret_bool (by decide +kernel), rfl⟩
end Go.Proofs.Ytmmhpejnfkienaa
