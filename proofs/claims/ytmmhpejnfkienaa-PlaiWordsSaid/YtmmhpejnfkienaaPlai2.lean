/- Where a part of a plain scalar ends: contracts of ends, white, Part of package plai, and of the reference's Part. -/
import Derived.Test.YtmmhpejnfkienaaPlai1
import Derived.Test.YtmmhpejnfkienaaStrs
import Derived.Laws.RangeAny
namespace Go.Proofs.Ytmmhpejnfkienaa
open Go Go.RowKit Go.PlainAid
set_option linter.unusedVariables false
namespace Bk
theorem endP_high {s : ByteArray} {fl : Bool} {i : Nat} (h : 128 ≤ bt s i) : endP s fl i = false := by
  unfold endP
  rw [if_neg (by omega), if_neg (by omega)]
  have : flowB (bt s i) = false := by simp [flowB]; omega
  rw [this, Bool.and_false]
theorem decode_cont (s : ByteArray) (pos j : Nat) (h0 : 1 ≤ j) (hj : j < (Utf8.decode s pos).2) : pos + j < s.size ∧ 128 ≤ (s.get! (pos + j)).toNat := by
  have c : ∀ k, (decide (pos + k < s.size) && ((s.get! (pos + k)).toNat / 64 == 2)) = true → pos + k < s.size ∧ 128 ≤ (s.get! (pos + k)).toNat := by
    intro k hk
    simp at hk
    omega
  simp only [Utf8.decode] at hj
  split at hj
  · simp at hj; omega
  · split at hj
    · rename_i h1
      rw [Bool.and_eq_true] at h1
      split at hj <;> simp at hj
      · obtain rfl : j = 1 := by omega
        exact c 1 h1.2
      · omega
    · split at hj
      · rename_i h1
        rw [Bool.and_eq_true, Bool.and_eq_true] at h1
        split at hj <;> simp at hj
        · rcases (by omega : j = 1 ∨ j = 2) with rfl | rfl
          · exact c 1 h1.1.2
          · exact c 2 h1.2
        · omega
      · split at hj
        · rename_i h1
          rw [Bool.and_eq_true, Bool.and_eq_true, Bool.and_eq_true] at h1
          split at hj <;> simp at hj
          · rcases (by omega : j = 1 ∨ j = 2 ∨ j = 3) with rfl | rfl | rfl
            · exact c 1 h1.1.1.2
            · exact c 2 h1.1.2
            · exact c 3 h1.2
          · omega
        · simp at hj; omega
theorem decode_step {s : ByteArray} {pos : Nat} (h : pos < s.size) : 1 ≤ (Utf8.decode s pos).2 ∧ pos + (Utf8.decode s pos).2 ≤ s.size ∧ ∀ j, pos < j → j < pos + (Utf8.decode s pos).2 → 128 ≤ bt s j := by
  have h1 : 1 ≤ (Utf8.decode s pos).2 := by
    by_cases ha : (s[pos]'h).toNat < 128
    · rw [decode_ascii s pos h ha]; exact Nat.le_refl _
    · exact (decode_high s pos h (by omega)).2
  have h2 : pos + (Utf8.decode s pos).2 ≤ s.size := by
    by_cases e : (Utf8.decode s pos).2 = 1
    · omega
    · have := (decode_cont s pos ((Utf8.decode s pos).2 - 1) (by omega) (by omega)).1; omega
  refine ⟨h1, h2, fun j hj hj' => ?_⟩
  have := decode_cont s pos (j - pos) (by omega) (by omega)
  rw [show pos + (j - pos) = j from by omega] at this
  rw [← get_bt s j this.1]
  have e : s.get! j = s[j]'this.1 := get_at s j this.1
  have h3 := this.2
  rw [e] at h3
  omega
end Bk
set_option maxHeartbeats 800000 in
theorem ends91_any (s : ByteArray) (a : Int) (fl : Bool) (w : World) (hs : s.size ≤ 1000000) (ha : 0 ≤ a) (hk' : a < s.size) :
    Calls Try.prog 91 #[.string s, .int .i64 a, .bool fl] w fun e w' => e = .returned (.bool (Bk.endP s fl a.toNat)) ∧ w = w' := by
  obtain ⟨k, rfl⟩ := Int.eq_ofNat_of_zero_le ha
  rw [Int.toNat_natCast]
  have hk : k < s.size := by omega
  have hb := get_bt s
  by_cases h1 : bt s k = 35
  · have h1' : (bt s k == 35) = true := by simp [h1]
    have HE : Hid (Bk.endP s fl k = (decide (0 < k) && Bk.whiteB (bt s (k - 1)))) := Lib.hid (by rw [Bk.endP, if_pos h1])
    clear h1
    by_cases h0 : 0 < k
    · have e1 : ((k : Int) - 1).toNat = k - 1 := by omega
      go_enter Try.func91, Try.ntmps91
      go_wp2_with (go_at_call 22; refine (white_any _ _).mono ?_; rintro e w' ⟨rfl, rfl⟩)
      go_ret
      exact ⟨ret_bool (by rw [HE.out]; simp [h0]), rfl⟩
    · go_enter Try.func91, Try.ntmps91
      go_wp2
      go_ret
      exact ⟨ret_bool (by rw [HE.out]; simp [h0]), rfl⟩
  · have h1' : (bt s k == 35) = false := by simp [h1]
    by_cases h2 : bt s k = 58
    · have h2' : (bt s k == 58) = true := by simp [h2]
      have HE : Hid (Bk.endP s fl k = Bk.stopsB s k fl) := Lib.hid (by rw [Bk.endP, if_neg h1, if_pos h2])
      clear h1 h2
      go_enter Try.func91, Try.ntmps91
      go_wp2_with (go_at_call 89; refine (stops_any _ _ _ _ hs hk).mono ?_; rintro e w' ⟨rfl, rfl⟩)
      go_ret
      exact ⟨ret_bool (by rw [HE.out]), rfl⟩
    · have h2' : (bt s k == 58) = false := by simp [h2]
      have HE : Hid (Bk.endP s fl k = (fl && Bk.flowB (bt s k))) := Lib.hid (by rw [Bk.endP, if_neg h1, if_neg h2])
      clear h1 h2
      cases fl
      all_goals
        go_enter Try.func91, Try.ntmps91
        go_wp2_with (go_at_call 26; refine (flow_any _ _).mono ?_; rintro e w' ⟨rfl, rfl⟩)
        go_ret
        exact ⟨ret_bool (by rw [HE.out]; rfl), rfl⟩
set_option maxHeartbeats 800000 in
theorem white88_any (s : ByteArray) (k : Nat) (w : World) (hs : s.size ≤ 1000000) :
    Calls Try.prog 88 #[.string s, .int .i64 k] w fun e w' => e = .returned (.int .i64 (Bk.firstN s k s.size : Nat)) ∧ w = w' := by
  have hb := get_bt s
  go_enter Try.func88, Try.ntmps88
  go_wp2
  go_loop [1] (fun i => ∃ p : Nat, k ≤ p ∧ (p = k ∨ p ≤ s.size) ∧ i = .int .i64 p ∧ Hid (∀ j, k ≤ j → j < p → Bk.whiteB (bt s j) = true)) (fun i => s.size - (intOf i).toNat)
  case atStart => exact ⟨k, by omega, by omega, rfl, Lib.hid fun j _ _ => by omega⟩
  case round =>
    obtain ⟨p, hp, hp', rfl, H⟩ := hrel
    by_cases hlt : p < s.size
    · cases hw : Bk.whiteB (bt s p) with
      | true =>
        have HC : Hid (Bk.whiteB (bt s p) = true) := Lib.hid hw
        go_wp2_with (go_at_call 22; refine (white_any _ _).mono ?_; rintro e w' ⟨rfl, rfl⟩)
        go_round
        case rel =>
          refine ⟨p + 1, by omega, by omega, by go_num, Lib.hid fun j hj hj' => ?_⟩
          by_cases e : j = p
          · subst e; exact HC.out
          · exact H.out j hj (by omega)
        case measure => simp [intOf]; omega
      | false =>
        have HE := Lib.hid (Bk.firstN_eq (m := s.size) hp (by omega) H.out (fun _ => hw))
        go_wp2_with (go_at_call 22; refine (white_any _ _).mono ?_; rintro e w' ⟨rfl, rfl⟩)
        go_ret
        exact ⟨ret_int (by rw [HE.out]), rfl⟩
    · have HE : Hid (Bk.firstN s k s.size = p) := Lib.hid (by
        by_cases e : k ≤ s.size
        · exact Bk.firstN_eq (m := s.size) hp (by omega) H.out (fun h => absurd h hlt)
        · unfold Bk.firstN; rw [show s.size - k = 0 from by omega]; show k + 0 = p; omega)
      go_wp2
      go_ret
      exact ⟨ret_int (by rw [HE.out]), rfl⟩
end Go.Proofs.Ytmmhpejnfkienaa
