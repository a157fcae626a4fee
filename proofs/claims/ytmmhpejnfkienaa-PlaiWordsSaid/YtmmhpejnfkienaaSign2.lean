/- Ends and Name of package sign, and of the reference: contracts. -/
import Derived.Test.YtmmhpejnfkienaaSign
namespace Go.Proofs.Ytmmhpejnfkienaa
open Go Go.RowKit Go.PlainAid
namespace Bk
theorem has_flow (c : Int) : hasB ⟨#[44, 91, 93, 123, 125]⟩ c = flowB c := by
  rw [has_list [44, 91, 93, 123, 125]]
  rw [Bool.eq_iff_iff]; simp [flowB]; omega
theorem has_uri (c : Int) : hasB ⟨#[35, 59, 47, 63, 58, 64, 38, 61, 43, 36, 95, 46, 33, 126, 42, 39, 40, 41, 37, 44, 91, 93]⟩ c = [35, 59, 47, 63, 58, 64, 38, 61, 43, 36, 95, 46, 33, 126, 42, 39, 40, 41, 37, 44, 91, 93].contains c := by
  rw [has_list [35, 59, 47, 63, 58, 64, 38, 61, 43, 36, 95, 46, 33, 126, 42, 39, 40, 41, 37, 44, 91, 93]]
  rfl
def stopB (c : Int) : Bool := whiteB c || c == 10 || flowB c
/-- How many bytes from place k on stop no name. -/
def runN (s : ByteArray) : Nat → Nat → Nat
  | 0, _ => 0
  | f + 1, k => if k < s.size ∧ stopB (bt s k) = false then runN s f (k + 1) + 1 else 0
def nameN (s : ByteArray) (a : Int) : Nat := if a < 0 then 0 else runN s s.size a.toNat
theorem runN_eq (s : ByteArray) : ∀ (n f k : Nat), n ≤ f → (∀ j, j < n → k + j < s.size ∧ stopB (bt s (k + j)) = false) → (k + n < s.size → stopB (bt s (k + n)) = true) → (n = f → s.size ≤ k + n) → runN s f k = n
  | 0, 0, k, _, _, _, _ => rfl
  | 0, f + 1, k, _, _, h2, _ => by
    unfold runN
    rw [if_neg]
    intro h
    have := h2 (by omega)
    simp only [Nat.add_zero] at this
    rw [this] at h
    exact absurd h.2 (by simp)
  | n + 1, 0, k, h, _, _, _ => by omega
  | n + 1, f + 1, k, h, h1, h2, h3 => by
    unfold runN
    have a := h1 0 (by omega)
    simp only [Nat.add_zero] at a
    rw [if_pos a, runN_eq s n f (k + 1) (by omega) (fun j hj => by have := h1 (j + 1) (by omega); rw [show k + 1 + j = k + (j + 1) from by omega]; exact this)
      (fun hh => by rw [show k + 1 + n = k + (n + 1) from by omega] at hh ⊢; exact h2 hh) (fun e => by have := h3 (by omega); omega)]
theorem nameN_eq {s : ByteArray} {k n : Nat} (h1 : ∀ j, j < n → k + j < s.size ∧ stopB (bt s (k + j)) = false) (h2 : k + n < s.size → stopB (bt s (k + n)) = true) : nameN s (k : Int) = n := by
  unfold nameN
  rw [if_neg (by omega), Int.toNat_natCast]
  have hle : n ≤ s.size := by
    by_cases e : n = 0
    · omega
    · have := (h1 (n - 1) (by omega)).1; omega
  exact runN_eq s n s.size k hle h1 h2 (fun e => by omega)
end Bk
set_option maxHeartbeats 400000 in
theorem rflow_any (c : Int) (w : World) :
    Calls Try.prog 27 #[.int .u8 c] w fun e w' => e = .returned (.bool (Bk.flowB c)) ∧ w = w' := by
  go_enter Try.func27, Try.ntmps27
  go_wp2_with (go_at_call 66; refine (rhas_any _ _ _ (by decide)).mono ?_; rintro e w' ⟨rfl, rfl⟩)
  go_ret
  exact ⟨ret_bool (Bk.has_flow c), rfl⟩
set_option maxHeartbeats 400000 in
theorem rword_any (c : Int) (w : World) :
    Calls Try.prog 29 #[.int .u8 c] w fun e w' => e = .returned (.bool (Bk.wordB c)) ∧ w = w' := by
  go_enter Try.func29, Try.ntmps29
  go_wp2
  all_goals (go_ret; refine ⟨ret_bool ?_, rfl⟩; rw [Bool.eq_iff_iff]; simp [Bk.wordB]; omega)
set_option maxHeartbeats 400000 in
theorem ruri_any (c : Int) (w : World) :
    Calls Try.prog 31 #[.int .u8 c] w fun e w' => e = .returned (.bool (Bk.uriB c)) ∧ w = w' := by
  go_enter Try.func31, Try.ntmps31
  go_wp2_with first | (go_at_call 29; refine (rword_any _ _).mono ?_; rintro e w' ⟨rfl, rfl⟩) | (go_at_call 66; refine (rhas_any _ _ _ (by decide)).mono ?_; rintro e w' ⟨rfl, rfl⟩)
  all_goals (go_ret; refine ⟨ret_bool ?_, rfl⟩; simp_all [Bk.uriB, Bk.has_uri])
set_option maxHeartbeats 400000 in
theorem ends_any (s : ByteArray) (a : Int) (w : World) :
    Calls Try.prog 33 #[.string s, .int .i64 a] w fun e w' => e = .returned (.bool (Bk.endsB s a)) ∧ w = w' := by
  have hb := get_bt s
  by_cases h0 : a < 0
  · go_enter Try.func33, Try.ntmps33
    go_wp2
    go_ret
    exact ⟨ret_bool (by simp [Bk.endsB, h0]), rfl⟩
  · obtain ⟨k, rfl⟩ := Int.eq_ofNat_of_zero_le (by omega : 0 ≤ a)
    by_cases h1 : k < s.size
    · go_enter Try.func33, Try.ntmps33
      go_wp2_with (go_at_call 22; refine (white_any _ _).mono ?_; rintro e w' ⟨rfl, rfl⟩)
      all_goals (go_ret; refine ⟨ret_bool ?_, rfl⟩; rw [Bool.eq_iff_iff]; simp [Bk.endsB, *]; try omega)
    · go_enter Try.func33, Try.ntmps33
      go_wp2
      go_ret
      exact ⟨ret_bool (by simp [Bk.endsB]; omega), rfl⟩
set_option maxHeartbeats 400000 in
theorem rends_any (s : ByteArray) (a : Int) (w : World) :
    Calls Try.prog 34 #[.string s, .int .i64 a] w fun e w' => e = .returned (.bool (Bk.endsB s a)) ∧ w = w' := by
  have hb := get_bt s
  by_cases h0 : a < 0
  · go_enter Try.func34, Try.ntmps34
    go_wp2
    go_ret
    exact ⟨ret_bool (by simp [Bk.endsB, h0]), rfl⟩
  · obtain ⟨k, rfl⟩ := Int.eq_ofNat_of_zero_le (by omega : 0 ≤ a)
    by_cases h1 : k < s.size
    · go_enter Try.func34, Try.ntmps34
      go_wp2_with (go_at_call 23; refine (rwhite_any _ _).mono ?_; rintro e w' ⟨rfl, rfl⟩)
      all_goals (go_ret; refine ⟨ret_bool ?_, rfl⟩; rw [Bool.eq_iff_iff]; simp [Bk.endsB, *]; try omega)
    · go_enter Try.func34, Try.ntmps34
      go_wp2
      go_ret
      exact ⟨ret_bool (by simp [Bk.endsB]; omega), rfl⟩
namespace Bk
theorem stop_of {s : ByteArray} {k : Nat} (h : k < s.size) : stopB (bt s k) = (endsB s (k : Int) || flowB (bt s k)) := by
  rw [ends_in h]; rfl
end Bk
set_option maxHeartbeats 800000 in
theorem name_any (s : ByteArray) (a : Int) (w : World) (hs : s.size ≤ 4611686018427387904) (ha : -9223372036854775808 ≤ a) (ha' : a ≤ 9223372036854775807) :
    Calls Try.prog 35 #[.string s, .int .i64 a] w fun e w' => e = .returned (.int .i64 (Bk.nameN s a : Nat)) ∧ w = w' := by
  have hb := get_bt s
  by_cases h0 : a < 0
  · have HN : Hid (Bk.nameN s a = 0) := Lib.hid (by unfold Bk.nameN; rw [if_pos h0])
    go_enter Try.func35, Try.ntmps35
    go_wp2
    go_loop [5] (fun i => i = .int .i64 0) (fun _ => 0)
    case atStart => rfl
    case round =>
      obtain rfl := hrel
      go_wp2
      go_ret
      exact ⟨by rw [HN.out]; rfl, rfl⟩
  · obtain ⟨k, rfl⟩ := Int.eq_ofNat_of_zero_le (by omega : 0 ≤ a)
    go_enter Try.func35, Try.ntmps35
    go_wp2
    go_loop [5] (fun i => ∃ n : Nat, (n = 0 ∨ k + n ≤ s.size) ∧ i = .int .i64 n ∧ Hid (∀ j, j < n → k + j < s.size ∧ Bk.stopB (bt s (k + j)) = false)) (fun i => s.size - (intOf i).toNat)
    case atStart => exact ⟨0, by omega, rfl, Lib.hid fun j h => absurd h (by omega)⟩
    case round =>
      obtain ⟨n, hn, rfl, H⟩ := hrel
      by_cases hlt : k + n < s.size
      · have HS := Lib.hid (Bk.stop_of hlt)
        cases hE : Bk.endsB s ((k : Int) + (n : Int)) with
        | true =>
          have HN := Lib.hid (Bk.nameN_eq H.out (fun _ => by rw [HS.out]; show (Bk.endsB s ((k : Int) + (n : Int)) || _) = true; rw [hE]; rfl))
          go_wp2_with (go_at_call 33; refine (ends_any _ _ _).mono ?_; rintro e w' ⟨rfl, rfl⟩)
          go_ret
          exact ⟨by rw [HN.out]; rfl, rfl⟩
        | false =>
          cases hF : Bk.flowB (bt s (k + n)) with
          | true =>
            have HN := Lib.hid (Bk.nameN_eq H.out (fun _ => by rw [HS.out, hF]; simp))
            go_wp2_with first | (go_at_call 33; refine (ends_any _ _ _).mono ?_; rintro e w' ⟨rfl, rfl⟩) | (go_at_call 26; refine (flow_any _ _).mono ?_; rintro e w' ⟨rfl, rfl⟩)
            go_ret
            exact ⟨by rw [HN.out]; rfl, rfl⟩
          | false =>
            have HT := Lib.hid (show Bk.stopB (bt s (k + n)) = false by rw [HS.out]; show (Bk.endsB s ((k : Int) + (n : Int)) || _) = false; rw [hE, hF]; rfl)
            go_wp2_with first | (go_at_call 33; refine (ends_any _ _ _).mono ?_; rintro e w' ⟨rfl, rfl⟩) | (go_at_call 26; refine (flow_any _ _).mono ?_; rintro e w' ⟨rfl, rfl⟩)
            go_round
            case rel =>
              refine ⟨n + 1, by omega, by go_num, Lib.hid fun j hj => ?_⟩
              by_cases e : j = n
              · subst e; exact ⟨hlt, HT.out⟩
              · exact H.out j (by omega)
            case measure => simp [intOf]; omega
      · have HN := Lib.hid (Bk.nameN_eq H.out (fun h => absurd h hlt))
        go_wp2
        go_ret
        exact ⟨by rw [HN.out]; rfl, rfl⟩
end Go.Proofs.Ytmmhpejnfkienaa
