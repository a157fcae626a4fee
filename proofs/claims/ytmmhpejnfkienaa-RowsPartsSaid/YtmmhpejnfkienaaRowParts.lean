/- The law RowsParts of chapter 7: its walk. -/
import Derived.Test.YtmmhpejnfkienaaRowLaws
namespace Go.Proofs.Ytmmhpejnfkienaa
open Go Go.RowKit Go.PlainAid
namespace Bk
theorem part_in {s : ByteArray} {k b p : Nat} (h0 : 0 < k → bt s (k - 1) = 10) (hb : b = toN s k) (hk : k ≤ s.size) (hp : k ≤ p) (hp' : p ≤ b) : fromN s p = k ∧ toN s p = b ∧ (p < b → bt s p ≠ 10) := by
  subst hb
  have hle := toN_le hk
  refine ⟨fromN_eq hp (fun j h1 h2 => toN_all h1 (by omega)) h0, toN_eq hp' hle (fun j h1 h2 => toN_all (by omega) h2) (fun h => toN_end h), fun h => toN_all hp h⟩
end Bk
set_option maxRecDepth 20000 in
set_option maxHeartbeats 1600000 in
theorem rowsParts_walk (s : ByteArray) (w : World) (hs0 : s.size ≤ maxLen) :
    Calls Try.prog 7 #[.string s] w fun e w' => e = .returned (.bool true) ∧ w = w' := by
  unfold maxLen at hs0
  have hbt := get_bt s
  by_cases hl : s.size ≤ 120
  · have hs : s.size ≤ 4611686018427387903 := by omega
    clear hs0
    go_enter Try.func7, Try.ntmps7
    go_wp2
    go_loop [3] (fun i => ∃ k : Nat, k ≤ s.size ∧ i = .int .i64 k ∧ Hid (0 < k → bt s (k - 1) = 10)) (fun i => s.size + 1 - (intOf i).toNat)
    case atStart => exact ⟨0, by omega, rfl, Lib.hid fun h => absurd h (by omega)⟩
    case round =>
      obtain ⟨k, hk, rfl, H0⟩ := hrel
      obtain ⟨b, hb⟩ : ∃ b, b = Bk.toN s k := ⟨_, rfl⟩
      have hkb := Bk.toN_ge s k
      have hbs := Bk.toN_le hk
      have hbe : Hid (b < s.size → bt s b = 10) := Lib.hid (by rw [hb]; exact fun h => Bk.toN_end h)
      rw [← hb] at hkb hbs
      have HB := Lib.hid hb
      have HN := Lib.hid (Bk.heldN_nat hk)
      have HF := Lib.hid (Bk.part_in H0.out hb hk (Nat.le_refl k) hkb).1
      clear hb
      have d1 : decide (b < k) = false := by simpa using hkb
      have d2 : decide (s.size < b) = false := by simpa using hbs
      by_cases hlt : b < s.size
      · have hbf : (bt s b != 10) = false := by rw [hbe.out hlt]; rfl
        have HB10 : Hid (bt s b = 10) := Lib.hid (hbe.out hlt)
        have hbl : ((b : Int) == (s.size : Int)) = false := by simp; omega
        clear hbe
        go_wp2_with (go_at_call 39; refine (row_any s k _ hs).mono ?_; rintro e w' ⟨rfl, rfl⟩; rw [HN.out, HF.out, ← HB.out])
        go_loop [6] (fun i => ∃ p : Nat, k ≤ p ∧ p ≤ b + 1 ∧ i = .int .i64 p) (fun i => b + 2 - (intOf i).toNat)
        case atStart => exact ⟨k, Nat.le_refl _, by omega, rfl⟩
        case round =>
          obtain ⟨p, hp, hp', rfl⟩ := hrel
          by_cases hpb : p ≤ b
          · have HP := Lib.hid (Bk.part_in H0.out HB.out hk hp hpb)
            have HNp := Lib.hid (Bk.heldN_nat (s := s) (k := p) (by omega))
            have h10 : p < b → (bt s p == 10) = false := fun h => by simpa using HP.out.2.2 h
            by_cases hpl : p < b
            all_goals
              (try have h11 := h10 hpl)
              clear h10
              go_wp2_with first
                | (go_at_call 39; refine (row_any s p _ hs).mono ?_; rintro e w' ⟨rfl, rfl⟩; rw [HNp.out, HP.out.1, HP.out.2.1])
                | (go_at_call 43; refine (col_any s p _ hs).mono ?_; rintro e w' ⟨rfl, rfl⟩; rw [HNp.out, HP.out.1])
              go_round
              case rel => exact ⟨p + 1, by omega, by omega, by go_num⟩
              case measure => simp [intOf]; omega
          · go_wp2
            go_round
            case rel => exact ⟨b + 1, by omega, by go_num, Lib.hid fun _ => HB10.out⟩
            case measure => simp [intOf]; omega
      · have hbl : ((b : Int) == (s.size : Int)) = true := by simp; omega
        clear hbe
        go_wp2_with (go_at_call 39; refine (row_any s k _ hs).mono ?_; rintro e w' ⟨rfl, rfl⟩; rw [HN.out, HF.out, ← HB.out])
        go_loop [6] (fun i => ∃ p : Nat, k ≤ p ∧ p ≤ b + 1 ∧ i = .int .i64 p) (fun i => b + 2 - (intOf i).toNat)
        case atStart => exact ⟨k, Nat.le_refl _, by omega, rfl⟩
        case round =>
          obtain ⟨p, hp, hp', rfl⟩ := hrel
          by_cases hpb : p ≤ b
          · have HP := Lib.hid (Bk.part_in H0.out HB.out hk hp hpb)
            have HNp := Lib.hid (Bk.heldN_nat (s := s) (k := p) (by omega))
            have h10 : p < b → (bt s p == 10) = false := fun h => by simpa using HP.out.2.2 h
            by_cases hpl : p < b
            all_goals
              (try have h11 := h10 hpl)
              clear h10
              go_wp2_with first
                | (go_at_call 39; refine (row_any s p _ hs).mono ?_; rintro e w' ⟨rfl, rfl⟩; rw [HNp.out, HP.out.1, HP.out.2.1])
                | (go_at_call 43; refine (col_any s p _ hs).mono ?_; rintro e w' ⟨rfl, rfl⟩; rw [HNp.out, HP.out.1])
              go_round
              case rel => exact ⟨p + 1, by omega, by omega, by go_num⟩
              case measure => simp [intOf]; omega
          · go_wp2_with (go_at_call 38; refine (awake7 _).mono ?_; rintro e w' ⟨rfl, rfl⟩)
            go_ret
            exact ⟨rfl, rfl⟩
  · go_enter Try.func7, Try.ntmps7
    go_wp2_with (go_at_call 38; refine (awake7 _).mono ?_; rintro e w' ⟨rfl, rfl⟩)
    go_ret
    exact ⟨rfl, rfl⟩
end Go.Proofs.Ytmmhpejnfkienaa
