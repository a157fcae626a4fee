/- Above of package rows, and of the reference: contracts. -/
import Derived.Test.YtmmhpejnfkienaaRow5
namespace Go.Proofs.Ytmmhpejnfkienaa
open Go Go.RowKit Go.PlainAid
namespace Bk
theorem heldN_nat {s : ByteArray} {k : Nat} (h : k ≤ s.size) : heldN s (k : Int) = k := by unfold heldN; omega
theorem aboveL_enough (s : ByteArray) : ∀ (f g k : Nat), k ≤ f → k ≤ g → aboveL s f k = aboveL s g k
  | 0, 0, _, _, _ => rfl
  | 0, g + 1, k, h, _ => by unfold aboveL; rw [if_pos (by omega)]
  | f + 1, 0, k, _, h => by unfold aboveL; rw [if_pos (by omega)]
  | f + 1, g + 1, k, h1, h2 => by
    unfold aboveL
    by_cases h0 : k = 0
    · rw [if_pos h0, if_pos h0]
    · have := fromN_le s (k - 1)
      rw [if_neg h0, if_neg h0, aboveL_enough s f g (fromN s (k - 1)) (by omega) (by omega)]
/-- How many blank rows stand above a row that begins at k. -/
def upN (s : ByteArray) (k : Nat) : Nat := aboveL s k k
theorem upN_zero (s : ByteArray) : upN s 0 = 0 := rfl
theorem upN_step {s : ByteArray} {k : Nat} (h0 : 0 < k) : upN s k = if kindN s (fromN s (k - 1)) = 1 then upN s (fromN s (k - 1)) + 1 else 0 := by
  obtain ⟨m, rfl⟩ : ∃ m, k = m + 1 := ⟨k - 1, by omega⟩
  have := fromN_le s (m + 1 - 1)
  unfold upN
  rw [show aboveL s (m + 1) (m + 1) = if m + 1 = 0 then 0 else if kindN s (fromN s (m + 1 - 1)) = 1 then aboveL s m (fromN s (m + 1 - 1)) + 1 else 0 from rfl, if_neg (by omega)]
  rw [aboveL_enough s m (fromN s (m + 1 - 1)) _ (by omega) (Nat.le_refl _)]
theorem upN_le (s : ByteArray) (k : Nat) : upN s k ≤ k := aboveL_le s k k
theorem aboveN_is {s : ByteArray} {k : Nat} (h : k ≤ s.size) : aboveN s k = if firstN s (fromN s k) k < k then 0 else upN s (fromN s k) := by
  have := fromN_le s k
  unfold aboveN upN
  rw [aboveL_enough s s.size (fromN s k) _ (by omega) (Nat.le_refl _)]
end Bk
set_option maxHeartbeats 1600000 in
theorem above_any (s : ByteArray) (a : Int) (w : World) (hs : s.size ≤ 4611686018427387903) :
    Calls Try.prog 47 #[.string s, .int .i64 a] w fun e w' => e = .returned (.int .i64 (Bk.aboveN s (Bk.heldN s a) : Nat)) ∧ w = w' := by
  have hh := Bk.heldN_le s a
  have HA := Lib.hid (Bk.aboveN_is hh)
  obtain ⟨h, hH⟩ : ∃ h, h = Bk.heldN s a := ⟨_, rfl⟩
  rw [← hH] at hh HA ⊢
  have HH := Lib.hid hH
  clear hH
  have hn := Bk.heldN_nat hh
  have hf := Bk.fromN_le s h
  have hp0 := Bk.firstN_ge s (Bk.fromN s h) h
  have hp := Bk.firstN_le (s := s) hf
  by_cases hlt : Bk.firstN s (Bk.fromN s h) h < h
  · have HE : Hid (Bk.aboveN s h = 0) := Lib.hid (by rw [HA.out, if_pos hlt])
    have h0 := Bk.ext_cons hlt hh
    go_enter Try.func47, Try.ntmps47
    go_wp2_with first
      | (go_at_call 67; refine (held_any _ _ _).mono ?_; rintro e w' ⟨rfl, rfl⟩; rw [← HH.out])
      | (go_at_call 39; refine (row_any s h _ hs).mono ?_; rintro e w' ⟨rfl, rfl⟩; rw [hn])
      | (go_at_call 71; refine (bare_any s (Bk.fromN s h) h _ hh hf).mono ?_; rintro e w' ⟨rfl, rfl⟩)
    go_ret
    exact ⟨ret_int (by rw [HE.out]; rfl), rfl⟩
  · have HE : Hid (Bk.aboveN s h = Bk.upN s (Bk.fromN s h)) := Lib.hid (by rw [HA.out, if_neg hlt])
    have h0 : (s.extract (Bk.firstN s (Bk.fromN s h) h) h).toList = [] := by rw [show Bk.firstN s (Bk.fromN s h) h = h from by omega]; exact Bk.ext_nil
    go_enter Try.func47, Try.ntmps47
    go_wp2_with first
      | (go_at_call 67; refine (held_any _ _ _).mono ?_; rintro e w' ⟨rfl, rfl⟩; rw [← HH.out])
      | (go_at_call 39; refine (row_any s h _ hs).mono ?_; rintro e w' ⟨rfl, rfl⟩; rw [hn])
      | (go_at_call 71; refine (bare_any s (Bk.fromN s h) h _ hh hf).mono ?_; rintro e w' ⟨rfl, rfl⟩)
    clear h0 hlt hp hp0 hn
    go_loop [5, 7] (fun i n => ∃ k m : Nat, k ≤ s.size ∧ i = .int .i64 k ∧ n = .int .i64 m ∧ k + m ≤ s.size ∧ Hid (Bk.aboveN s h = Bk.upN s k + m)) (fun i _ => (intOf i).toNat)
    case atStart => exact ⟨Bk.fromN s h, 0, by omega, rfl, rfl, by omega, Lib.hid (by rw [HE.out, Nat.add_zero])⟩
    case round =>
      obtain ⟨k, m, hk, rfl, rfl, hkm, H⟩ := hrel
      by_cases h0 : 0 < k
      · have e1 : ((k : Int) - 1) = ((k - 1 : Nat) : Int) := by omega
        have hn := Bk.heldN_nat (s := s) (k := k - 1) (by omega)
        have hq := Bk.fromN_le s (k - 1)
        have hn2 := Bk.heldN_nat (s := s) (k := Bk.fromN s (k - 1)) (by omega)
        have HS := Lib.hid (Bk.upN_step (s := s) h0)
        have HN := Lib.hid hn
        have HN2 := Lib.hid hn2
        have E1 := Lib.hid e1
        clear hn hn2 e1
        cases hc : (Bk.kindN s (Bk.fromN s (k - 1)) != 1) with
        | true =>
          have HE2 := Lib.hid (show Bk.aboveN s h = m from by rw [H.out, HS.out, if_neg (by simpa using hc)]; omega)
          go_wp2_with first
            | (go_at_call 39; rw [E1.out]; refine (row_any s _ _ hs).mono ?_; rintro e w' ⟨rfl, rfl⟩; rw [HN.out])
            | (go_at_call 45; refine (kind_any s _ _ hs).mono ?_; rintro e w' ⟨rfl, rfl⟩; rw [HN2.out])
          go_ret
          exact ⟨ret_int (by rw [HE2.out]), rfl⟩
        | false =>
          have HE2 := Lib.hid (show Bk.aboveN s h = Bk.upN s (Bk.fromN s (k - 1)) + (m + 1) from by rw [H.out, HS.out, if_pos (by simpa using hc)]; omega)
          go_wp2_with first
            | (go_at_call 39; rw [E1.out]; refine (row_any s _ _ hs).mono ?_; rintro e w' ⟨rfl, rfl⟩; rw [HN.out])
            | (go_at_call 45; refine (kind_any s _ _ hs).mono ?_; rintro e w' ⟨rfl, rfl⟩; rw [HN2.out])
          go_round
          case rel => exact ⟨Bk.fromN s (k - 1), m + 1, by omega, rfl, by go_num, by omega, HE2⟩
          case measure => simp [intOf]; omega
      · have HE2 := Lib.hid (show Bk.aboveN s h = m from by rw [H.out, show k = 0 from by omega, Bk.upN_zero]; omega)
        go_wp2
        go_ret
        exact ⟨ret_int (by rw [HE2.out]), rfl⟩
set_option maxHeartbeats 1600000 in
theorem rabove_any (s : ByteArray) (a : Int) (w : World) (hs : s.size ≤ 4611686018427387903) :
    Calls Try.prog 48 #[.string s, .int .i64 a] w fun e w' => e = .returned (.int .i64 (Bk.aboveN s (Bk.heldN s a) : Nat)) ∧ w = w' := by
  have hh := Bk.heldN_le s a
  have HA := Lib.hid (Bk.aboveN_is hh)
  obtain ⟨h, hH⟩ : ∃ h, h = Bk.heldN s a := ⟨_, rfl⟩
  rw [← hH] at hh HA ⊢
  have HH := Lib.hid hH
  clear hH
  have hn := Bk.heldN_nat hh
  have hf := Bk.fromN_le s h
  have hp0 := Bk.firstN_ge s (Bk.fromN s h) h
  have hp := Bk.firstN_le (s := s) hf
  by_cases hlt : Bk.firstN s (Bk.fromN s h) h < h
  · have HE : Hid (Bk.aboveN s h = 0) := Lib.hid (by rw [HA.out, if_pos hlt])
    go_enter Try.func48, Try.ntmps48
    go_wp2_with first
      | (go_at_call 70; refine (rheld_any _ _ _).mono ?_; rintro e w' ⟨rfl, rfl⟩; rw [← HH.out])
      | (go_at_call 40; refine (rrow_any s h _ hs).mono ?_; rintro e w' ⟨rfl, rfl⟩; rw [hn])
      | (go_at_call 73; refine (rfirst_any s (Bk.fromN s h) h _ hs hh).mono ?_; rintro e w' ⟨rfl, rfl⟩)
    go_ret
    exact ⟨ret_int (by rw [HE.out]; rfl), rfl⟩
  · have HE : Hid (Bk.aboveN s h = Bk.upN s (Bk.fromN s h)) := Lib.hid (by rw [HA.out, if_neg hlt])
    go_enter Try.func48, Try.ntmps48
    go_wp2_with first
      | (go_at_call 70; refine (rheld_any _ _ _).mono ?_; rintro e w' ⟨rfl, rfl⟩; rw [← HH.out])
      | (go_at_call 40; refine (rrow_any s h _ hs).mono ?_; rintro e w' ⟨rfl, rfl⟩; rw [hn])
      | (go_at_call 73; refine (rfirst_any s (Bk.fromN s h) h _ hs hh).mono ?_; rintro e w' ⟨rfl, rfl⟩)
    clear hlt hp hp0 hn
    go_loop [5, 7] (fun i n => ∃ k m : Nat, k ≤ s.size ∧ i = .int .i64 k ∧ n = .int .i64 m ∧ k + m ≤ s.size ∧ Hid (Bk.aboveN s h = Bk.upN s k + m)) (fun i _ => (intOf i).toNat)
    case atStart => exact ⟨Bk.fromN s h, 0, by omega, rfl, rfl, by omega, Lib.hid (by rw [HE.out, Nat.add_zero])⟩
    case round =>
      obtain ⟨k, m, hk, rfl, rfl, hkm, H⟩ := hrel
      by_cases h0 : 0 < k
      · have e1 : ((k : Int) - 1) = ((k - 1 : Nat) : Int) := by omega
        have hn := Bk.heldN_nat (s := s) (k := k - 1) (by omega)
        have hq := Bk.fromN_le s (k - 1)
        have hn2 := Bk.heldN_nat (s := s) (k := Bk.fromN s (k - 1)) (by omega)
        have HS := Lib.hid (Bk.upN_step (s := s) h0)
        have HN := Lib.hid hn
        have HN2 := Lib.hid hn2
        have E1 := Lib.hid e1
        clear hn hn2 e1
        cases hc : (Bk.kindN s (Bk.fromN s (k - 1)) != 1) with
        | true =>
          have HE2 := Lib.hid (show Bk.aboveN s h = m from by rw [H.out, HS.out, if_neg (by simpa using hc)]; omega)
          go_wp2_with first
            | (go_at_call 40; rw [E1.out]; refine (rrow_any s _ _ hs).mono ?_; rintro e w' ⟨rfl, rfl⟩; rw [HN.out])
            | (go_at_call 46; refine (rkind_any s _ _ hs).mono ?_; rintro e w' ⟨rfl, rfl⟩; rw [HN2.out])
          go_ret
          exact ⟨ret_int (by rw [HE2.out]), rfl⟩
        | false =>
          have HE2 := Lib.hid (show Bk.aboveN s h = Bk.upN s (Bk.fromN s (k - 1)) + (m + 1) from by rw [H.out, HS.out, if_pos (by simpa using hc)]; omega)
          go_wp2_with first
            | (go_at_call 40; rw [E1.out]; refine (rrow_any s _ _ hs).mono ?_; rintro e w' ⟨rfl, rfl⟩; rw [HN.out])
            | (go_at_call 46; refine (rkind_any s _ _ hs).mono ?_; rintro e w' ⟨rfl, rfl⟩; rw [HN2.out])
          go_round
          case rel => exact ⟨Bk.fromN s (k - 1), m + 1, by omega, rfl, by go_num, by omega, HE2⟩
          case measure => simp [intOf]; omega
      · have HE2 := Lib.hid (show Bk.aboveN s h = m from by rw [H.out, show k = 0 from by omega, Bk.upN_zero]; omega)
        go_wp2
        go_ret
        exact ⟨ret_int (by rw [HE2.out]), rfl⟩
end Go.Proofs.Ytmmhpejnfkienaa
