/- In, Col, First, bare, begun: contracts. -/
import Derived.Test.YtmmhpejnfkienaaRow1
namespace Go.Proofs.Ytmmhpejnfkienaa
open Go Go.RowKit Go.PlainAid
set_option maxHeartbeats 800000 in
theorem in_any (s : ByteArray) (a : Int) (w : World) (hs : s.size ≤ 4611686018427387903) :
    Calls Try.prog 41 #[.string s, .int .i64 a] w fun e w' => e = .returned (.int .i64 (Bk.inN s (Bk.heldN s a) : Nat)) ∧ w = w' := by
  have hb := get_bt s
  have hh := Bk.heldN_le s a
  have hf := Bk.fromN_le s (Bk.heldN s a)
  have hg := Bk.toN_ge s (Bk.heldN s a)
  have ht := Bk.toN_le hh
  have HIN : Hid (Bk.inN s (Bk.heldN s a) = Bk.runP (fun i => bt s i == 32) (Bk.toN s (Bk.heldN s a) - Bk.fromN s (Bk.heldN s a)) (Bk.fromN s (Bk.heldN s a))) := Lib.hid rfl
  go_enter Try.func41, Try.ntmps41
  go_wp2_with (go_at_call 39; refine (row_any _ _ _ hs).mono ?_; rintro e w' ⟨rfl, rfl⟩)
  generalize Bk.fromN s (Bk.heldN s a) = f at *
  generalize Bk.toN s (Bk.heldN s a) = t at *
  go_loop [17] (fun i => ∃ n : Nat, f + n ≤ t ∧ i = .int .i64 n ∧ Hid (∀ j, j < n → (bt s (f + j) == 32) = true)) (fun i => t - f - (intOf i).toNat)
  case atStart => exact ⟨0, by omega, rfl, Lib.hid fun j h => absurd h (by omega)⟩
  case round =>
    obtain ⟨n, hn, rfl, H⟩ := hrel
    by_cases hlt : f + n < t
    · by_cases hc : bt s (f + n) = 32
      · have h1 : (bt s (f + n) != 32) = false := by simp [hc]
        have HC := Lib.hid hc; clear hc
        go_wp2
        go_round
        case rel =>
          refine ⟨n + 1, by omega, by go_num, Lib.hid fun j hj => ?_⟩
          by_cases e : j = n
          · subst e; rw [HC.out]; rfl
          · exact H.out j (by omega)
        case measure => simp [intOf]; omega
      · have h1 : (bt s (f + n) != 32) = true := by simpa using hc
        have HE := Lib.hid (HIN.out.trans (Bk.runP_eq (by omega) H.out (fun _ => by simpa using hc)))
        clear hc
        go_wp2
        go_ret
        exact ⟨ret_int (by rw [HE.out]), rfl⟩
    · have HE := Lib.hid (HIN.out.trans (Bk.runP_eq (by omega) H.out (fun _ => by omega)))
      go_wp2
      go_ret
      exact ⟨ret_int (by rw [HE.out]; omega), rfl⟩
set_option maxHeartbeats 800000 in
theorem rin_any (s : ByteArray) (a : Int) (w : World) (hs : s.size ≤ 4611686018427387903) :
    Calls Try.prog 42 #[.string s, .int .i64 a] w fun e w' => e = .returned (.int .i64 (Bk.inN s (Bk.heldN s a) : Nat)) ∧ w = w' := by
  have hb := get_bt s
  have hh := Bk.heldN_le s a
  have hf := Bk.fromN_le s (Bk.heldN s a)
  have hg := Bk.toN_ge s (Bk.heldN s a)
  have ht := Bk.toN_le hh
  have HIN : Hid (Bk.inN s (Bk.heldN s a) = Bk.runP (fun i => bt s i == 32) (Bk.toN s (Bk.heldN s a) - Bk.fromN s (Bk.heldN s a)) (Bk.fromN s (Bk.heldN s a))) := Lib.hid rfl
  go_enter Try.func42, Try.ntmps42
  go_wp2_with (go_at_call 40; refine (rrow_any _ _ _ hs).mono ?_; rintro e w' ⟨rfl, rfl⟩)
  generalize Bk.fromN s (Bk.heldN s a) = f at *
  generalize Bk.toN s (Bk.heldN s a) = t at *
  go_loop [7] (fun i => ∃ n : Nat, f + n ≤ t ∧ i = .int .i64 n ∧ Hid (∀ j, j < n → (bt s (f + j) == 32) = true)) (fun i => t - f - (intOf i).toNat)
  case atStart => exact ⟨0, by omega, rfl, Lib.hid fun j h => absurd h (by omega)⟩
  case round =>
    obtain ⟨n, hn, rfl, H⟩ := hrel
    by_cases hlt : f + n < t
    · by_cases hc : bt s (f + n) = 32
      · have h1 : (bt s (f + n) == 32) = true := by simp [hc]
        have HC := Lib.hid hc; clear hc
        go_wp2
        go_round
        case rel =>
          refine ⟨n + 1, by omega, by go_num, Lib.hid fun j hj => ?_⟩
          by_cases e : j = n
          · subst e; rw [HC.out]; rfl
          · exact H.out j (by omega)
        case measure => simp [intOf]; omega
      · have h1 : (bt s (f + n) == 32) = false := by simpa using hc
        have HE := Lib.hid (HIN.out.trans (Bk.runP_eq (by omega) H.out (fun _ => by simpa using hc)))
        clear hc
        go_wp2
        go_ret
        exact ⟨ret_int (by rw [HE.out]), rfl⟩
    · have HE := Lib.hid (HIN.out.trans (Bk.runP_eq (by omega) H.out (fun _ => by omega)))
      go_wp2
      go_ret
      exact ⟨ret_int (by rw [HE.out]), rfl⟩
set_option maxHeartbeats 400000 in
theorem col_any (s : ByteArray) (a : Int) (w : World) (hs : s.size ≤ 4611686018427387903) :
    Calls Try.prog 43 #[.string s, .int .i64 a] w fun e w' => e = .returned (.int .i64 ((Bk.heldN s a : Nat) - (Bk.fromN s (Bk.heldN s a) : Nat))) ∧ w = w' := by
  have hh := Bk.heldN_le s a
  have hf := Bk.fromN_le s (Bk.heldN s a)
  go_enter Try.func43, Try.ntmps43
  go_wp2_with first
    | (go_at_call 39; refine (row_any _ _ _ hs).mono ?_; rintro e w' ⟨rfl, rfl⟩)
    | (go_at_call 67; refine (held_any _ _ _).mono ?_; rintro e w' ⟨rfl, rfl⟩)
  go_ret
  exact ⟨rfl, rfl⟩
set_option maxHeartbeats 400000 in
theorem rcol_any (s : ByteArray) (a : Int) (w : World) (hs : s.size ≤ 4611686018427387903) :
    Calls Try.prog 44 #[.string s, .int .i64 a] w fun e w' => e = .returned (.int .i64 ((Bk.heldN s a : Nat) - (Bk.fromN s (Bk.heldN s a) : Nat))) ∧ w = w' := by
  have hh := Bk.heldN_le s a
  have hf := Bk.fromN_le s (Bk.heldN s a)
  go_enter Try.func44, Try.ntmps44
  go_wp2_with first
    | (go_at_call 40; refine (rrow_any _ _ _ hs).mono ?_; rintro e w' ⟨rfl, rfl⟩)
    | (go_at_call 70; refine (rheld_any _ _ _).mono ?_; rintro e w' ⟨rfl, rfl⟩)
  go_ret
  exact ⟨rfl, rfl⟩
end Go.Proofs.Ytmmhpejnfkienaa
