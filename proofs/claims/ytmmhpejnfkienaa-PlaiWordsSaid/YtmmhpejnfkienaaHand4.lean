/- The reference's unit, handle, suffix, Size: contracts. -/
import Derived.Test.YtmmhpejnfkienaaHand3
namespace Go.Proofs.Ytmmhpejnfkienaa
open Go Go.RowKit Go.PlainAid
set_option maxHeartbeats 1600000 in
theorem runit_any (s : ByteArray) (k : Nat) (w : World) (hs : s.size ≤ 4611686018427387903) :
    Calls Try.prog 103 #[.string s, .int .i64 k] w fun e w' => e = .returned (.int .i64 (Bk.unitN s k : Nat)) ∧ w = w' := by
  have hb := get_bt s
  have HU : Hid (Bk.unitN s k = if k < s.size ∧ Bk.uriB (bt s k) = true then (if bt s k = 37 then (if Bk.percB s k = true then 3 else 0) else 1) else 0) := Lib.hid rfl
  have b1 := bt_nonneg s (k + 1)
  have b2 := bt_le s (k + 1)
  have b3 := bt_nonneg s (k + 2)
  have b4 := bt_le s (k + 2)
  by_cases hk : k < s.size
  · cases hu : Bk.uriB (bt s k) with
    | false =>
      have HE : Hid (Bk.unitN s k = 0) := Lib.hid (by rw [HU.out, hu]; simp)
      go_enter Try.func103, Try.ntmps103
      go_wp2_with (go_at_call 31; refine (ruri_any _ _).mono ?_; rintro e w' ⟨rfl, rfl⟩)
      go_ret
      exact ⟨ret_int (by rw [HE.out]; rfl), rfl⟩
    | true =>
      by_cases h37 : bt s k = 37
      · have h37b : (bt s k != 37) = false := by simp [h37]
        have HV : Hid (Bk.unitN s k = if Bk.percB s k = true then 3 else 0) := Lib.hid (by rw [HU.out, if_pos ⟨hk, hu⟩, if_pos h37])
        clear h37
        by_cases h3 : k + 3 ≤ s.size
        · have HPR : Hid (Bk.percB s k = (Bk.hexB (bt s (k + 1)) && Bk.hexB (bt s (k + 2)))) := Lib.hid (by unfold Bk.percB; rw [decide_eq_true h3]; rfl)
          cases h4 : Bk.hexB (bt s (k + 1)) with
          | false =>
            have h5 : Bk.hexI (bt s (k + 1)) < 0 := by rw [Bk.hexI_no h4]; decide
            have HE : Hid (Bk.unitN s k = 0) := Lib.hid (by rw [HV.out, HPR.out, h4]; simp)
            clear h4
            go_enter Try.func103, Try.ntmps103
            go_wp2_with first
              | (go_at_call 31; refine (ruri_any _ _).mono ?_; rintro e w' ⟨rfl, rfl⟩)
              | (go_at_call 113; refine (rhex_any _ _ (by omega) (by omega)).mono ?_; rintro e w' ⟨rfl, rfl⟩)
            go_ret
            exact ⟨ret_int (by rw [HE.out]; rfl), rfl⟩
          | true =>
            have h5 := Bk.hexI_yes h4
            have H4 := Lib.hid h4
            clear h4
            cases h6 : Bk.hexB (bt s (k + 2)) with
            | false =>
              have h7 : Bk.hexI (bt s (k + 2)) < 0 := by rw [Bk.hexI_no h6]; decide
              have HE : Hid (Bk.unitN s k = 0) := Lib.hid (by rw [HV.out, HPR.out, H4.out, h6]; simp)
              clear h6
              go_enter Try.func103, Try.ntmps103
              go_wp2_with first
                | (go_at_call 31; refine (ruri_any _ _).mono ?_; rintro e w' ⟨rfl, rfl⟩)
                | (go_at_call 113; refine (rhex_any _ _ (by omega) (by omega)).mono ?_; rintro e w' ⟨rfl, rfl⟩)
              go_ret
              exact ⟨ret_int (by rw [HE.out]; rfl), rfl⟩
            | true =>
              have h7 := Bk.hexI_yes h6
              have HE : Hid (Bk.unitN s k = 3) := Lib.hid (by rw [HV.out, HPR.out, H4.out, h6]; simp)
              clear h6
              go_enter Try.func103, Try.ntmps103
              go_wp2_with first
                | (go_at_call 31; refine (ruri_any _ _).mono ?_; rintro e w' ⟨rfl, rfl⟩)
                | (go_at_call 113; refine (rhex_any _ _ (by omega) (by omega)).mono ?_; rintro e w' ⟨rfl, rfl⟩)
              go_ret
              exact ⟨ret_int (by rw [HE.out]; rfl), rfl⟩
        · have HE : Hid (Bk.unitN s k = 0) := Lib.hid (by rw [HV.out]; unfold Bk.percB; rw [decide_eq_false h3]; simp)
          go_enter Try.func103, Try.ntmps103
          go_wp2_with (go_at_call 31; refine (ruri_any _ _).mono ?_; rintro e w' ⟨rfl, rfl⟩)
          go_ret
          exact ⟨ret_int (by rw [HE.out]; rfl), rfl⟩
      · have h37b : (bt s k != 37) = true := by simpa using h37
        have HE : Hid (Bk.unitN s k = 1) := Lib.hid (by rw [HU.out, if_pos ⟨hk, hu⟩, if_neg h37])
        clear h37
        go_enter Try.func103, Try.ntmps103
        go_wp2_with (go_at_call 31; refine (ruri_any _ _).mono ?_; rintro e w' ⟨rfl, rfl⟩)
        go_ret
        exact ⟨ret_int (by rw [HE.out]; rfl), rfl⟩
  · have HE : Hid (Bk.unitN s k = 0) := Lib.hid (by rw [HU.out, if_neg (fun q => hk q.1)])
    go_enter Try.func103, Try.ntmps103
    go_wp2
    go_ret
    exact ⟨ret_int (by rw [HE.out]; rfl), rfl⟩
/-- What the reference's handle tells: 1 where there is none. -/
def Bk.rhandN (s : ByteArray) (k : Nat) : Nat := if Bk.handN s k = 0 then 1 else Bk.handN s k
theorem Bk.rhand_pos {s : ByteArray} {k n : Nat} (h : Bk.handN s k = n + 1) : Bk.rhandN s k = n + 1 := by unfold Bk.rhandN; rw [h]; rfl
theorem Bk.rhand_zero {s : ByteArray} {k : Nat} (h : Bk.handN s k = 0) : Bk.rhandN s k = 1 := by unfold Bk.rhandN; rw [h]; rfl
set_option maxHeartbeats 1600000 in
theorem rhandle_any (s : ByteArray) (k : Nat) (w : World) (hs : s.size ≤ 4611686018427387903) (hk : k < s.size) :
    Calls Try.prog 104 #[.string s, .int .i64 k] w fun e w' => e = .returned (.int .i64 (Bk.rhandN s k : Nat)) ∧ w = w' := by
  have hb := get_bt s
  have HW : Hid (Bk.wordsN s k = 1 + Bk.runP (fun i => Bk.wordB (bt s i)) (s.size - (k + 1)) (k + 1)) := Lib.hid rfl
  have HH : Hid (Bk.handN s k = if k + Bk.wordsN s k < s.size ∧ bt s (k + Bk.wordsN s k) = 33 then Bk.wordsN s k + 1 else 0) := Lib.hid rfl
  go_enter Try.func104, Try.ntmps104
  go_wp2
  go_loop [5] (fun i => ∃ n : Nat, 1 ≤ n ∧ k + n ≤ s.size ∧ i = .int .i64 n ∧ Hid (∀ j, j < n - 1 → Bk.wordB (bt s (k + 1 + j)) = true)) (fun i => s.size - (intOf i).toNat)
  case atStart => exact ⟨1, by omega, by omega, rfl, Lib.hid fun j h => absurd h (by omega)⟩
  case round =>
    obtain ⟨n, h1, hn, rfl, H⟩ := hrel
    by_cases hlt : k + n < s.size
    · cases hw : Bk.wordB (bt s (k + n)) with
      | true =>
        have HK : Hid (Bk.wordB (bt s (k + n)) = true) := Lib.hid hw
        go_wp2_with (go_at_call 29; refine (rword_any _ _).mono ?_; rintro e w' ⟨rfl, rfl⟩)
        go_round
        case rel =>
          refine ⟨n + 1, by omega, by omega, by go_num, Lib.hid fun j hj => ?_⟩
          by_cases e : j = n - 1
          · subst e; rw [show k + 1 + (n - 1) = k + n from by omega]; exact HK.out
          · exact H.out j (by omega)
        case measure => simp [intOf]; omega
      | false =>
        have hWn : Bk.wordsN s k = n := by
          rw [HW.out, Bk.runP_eq (p := fun i => Bk.wordB (bt s i)) (n := n - 1) (by omega) H.out (fun _ => by show Bk.wordB (bt s (k + 1 + (n - 1))) = false; rw [show k + 1 + (n - 1) = k + n from by omega]; exact hw)]; omega
        have HWn := Lib.hid hWn
        clear hWn
        cases hc : (bt s (k + n) == 33) with
        | true =>
          have HE : Hid (Bk.rhandN s k = n + 1) := Lib.hid (Bk.rhand_pos (by rw [HH.out, HWn.out, if_pos ⟨hlt, beq_iff_eq.1 hc⟩]))
          go_wp2_with (go_at_call 29; refine (rword_any _ _).mono ?_; rintro e w' ⟨rfl, rfl⟩)
          go_ret
          exact ⟨ret_int (by rw [HE.out]; omega), rfl⟩
        | false =>
          have HE : Hid (Bk.rhandN s k = 1) := Lib.hid (Bk.rhand_zero (by rw [HH.out, HWn.out, if_neg (fun q => by have := q.2; rw [this] at hc; exact absurd hc (by decide))]))
          go_wp2_with (go_at_call 29; refine (rword_any _ _).mono ?_; rintro e w' ⟨rfl, rfl⟩)
          go_ret
          exact ⟨ret_int (by rw [HE.out]; rfl), rfl⟩
    · have hWn : Bk.wordsN s k = n := by
        rw [HW.out, Bk.runP_eq (p := fun i => Bk.wordB (bt s i)) (n := n - 1) (by omega) H.out (fun _ => by omega)]; omega
      have HE : Hid (Bk.rhandN s k = 1) := Lib.hid (Bk.rhand_zero (by rw [HH.out, hWn, if_neg (fun q => hlt q.1)]))
      clear hWn
      go_wp2
      go_ret
      exact ⟨ret_int (by rw [HE.out]; rfl), rfl⟩
set_option maxHeartbeats 1600000 in
theorem rsuffix_any (s : ByteArray) (k : Nat) (w : World) (hs : s.size ≤ 4611686018427387903) (hk : k ≤ s.size) :
    Calls Try.prog 105 #[.string s, .int .i64 k] w fun e w' => e = .returned (.int .i64 (Bk.urisN s true k : Nat)) ∧ w = w' := by
  have hb := get_bt s
  have HU : Hid (Bk.urisN s true k = Bk.runP (Bk.okB s true) (s.size - k) k) := Lib.hid rfl
  go_enter Try.func105, Try.ntmps105
  go_wp2
  go_loop [5] (fun i => ∃ n : Nat, k + n ≤ s.size ∧ i = .int .i64 n ∧ Hid (∀ j, j < n → Bk.okB s true (k + j) = true)) (fun i => s.size - (intOf i).toNat)
  case atStart => exact ⟨0, by omega, rfl, Lib.hid fun j h => absurd h (by omega)⟩
  case round =>
    obtain ⟨n, hn, rfl, H⟩ := hrel
    rcases Bk.unit_way s (k + n) with ⟨u0, hno⟩ | ⟨u0, hlt, huri, h37⟩ | ⟨u0, hlt, o1, o2, o3, h33, hfl⟩
    · have HE := Lib.hid (HU.out.trans (Bk.runP_eq (by omega) H.out (fun h => hno (by omega) true)))
      clear hno
      go_wp2_with (go_at_call 103; refine (runit_any s (k + n) _ hs).mono ?_; rintro e w' ⟨rfl, rfl⟩)
      go_ret
      exact ⟨ret_int (by rw [HE.out]), rfl⟩
    · have HOK : Hid (Bk.okB s true (k + n) = !((bt s (k + n) == 33) || Bk.flowB (bt s (k + n)))) := Lib.hid (by unfold Bk.okB; rw [huri, h37]; simp)
      clear huri h37
      cases h33 : (bt s (k + n) == 33) with
      | true =>
        have HE := Lib.hid (HU.out.trans (Bk.runP_eq (by omega) H.out (fun h => by rw [HOK.out, h33]; rfl)))
        go_wp2_with (go_at_call 103; refine (runit_any s (k + n) _ hs).mono ?_; rintro e w' ⟨rfl, rfl⟩)
        go_ret
        exact ⟨ret_int (by rw [HE.out]), rfl⟩
      | false =>
        cases hfl : Bk.flowB (bt s (k + n)) with
        | true =>
          have HE := Lib.hid (HU.out.trans (Bk.runP_eq (by omega) H.out (fun h => by rw [HOK.out, hfl]; simp)))
          go_wp2_with first
            | (go_at_call 103; refine (runit_any s (k + n) _ hs).mono ?_; rintro e w' ⟨rfl, rfl⟩)
            | (go_at_call 27; refine (rflow_any _ _).mono ?_; rintro e w' ⟨rfl, rfl⟩)
          go_ret
          exact ⟨ret_int (by rw [HE.out]), rfl⟩
        | false =>
          have HK : Hid (Bk.okB s true (k + n) = true) := Lib.hid (by rw [HOK.out, h33, hfl]; rfl)
          go_wp2_with first
            | (go_at_call 103; refine (runit_any s (k + n) _ hs).mono ?_; rintro e w' ⟨rfl, rfl⟩)
            | (go_at_call 27; refine (rflow_any _ _).mono ?_; rintro e w' ⟨rfl, rfl⟩)
          go_round
          case rel =>
            refine ⟨n + 1, by omega, by go_num, Lib.hid fun j hj => ?_⟩
            by_cases e : j = n
            · subst e; exact HK.out
            · exact H.out j (by omega)
          case measure => simp [intOf]; omega
    · have HK : Hid (Bk.okB s true (k + n) = true ∧ Bk.okB s true (k + n + 1) = true ∧ Bk.okB s true (k + n + 2) = true) := Lib.hid ⟨o1 true, o2 true, o3 true⟩
      clear o1 o2 o3
      go_wp2_with first
        | (go_at_call 103; refine (runit_any s (k + n) _ hs).mono ?_; rintro e w' ⟨rfl, rfl⟩)
        | (go_at_call 27; refine (rflow_any _ _).mono ?_; rintro e w' ⟨rfl, rfl⟩)
      go_round
      case rel =>
        refine ⟨n + 3, by omega, by go_num, Lib.hid fun j hj => ?_⟩
        rcases (by omega : j < n ∨ j = n ∨ j = n + 1 ∨ j = n + 2) with e | e | e | e
        · exact H.out j e
        · subst e; exact HK.out.1
        · subst e; exact HK.out.2.1
        · subst e; exact HK.out.2.2
      case measure => simp [intOf]; omega
namespace Bk
/-- The size of a tag, as the reference tells it. -/
theorem size_ref {s : ByteArray} {k : Nat} :
    (k + 1 < s.size → bt s (k + 1) = 60 → ¬ (0 < urisN s false (k + 2) ∧ k + 2 + urisN s false (k + 2) < s.size ∧ bt s (k + 2 + urisN s false (k + 2)) = 62) → sizeN s k = 1) ∧
    (¬ (k + 1 < s.size ∧ bt s (k + 1) = 60) → sizeN s k = if 0 < urisN s true (k + rhandN s k) then rhandN s k + urisN s true (k + rhandN s k) else if 0 < urisN s true (k + 1) then 1 + urisN s true (k + 1) else 1) := by
  constructor
  · intro h1 h60 hn
    have hw : wordsN s k = 1 := by
      unfold wordsN
      rw [runP_eq (p := fun i => wordB (bt s i)) (n := 0) (Nat.zero_le _) (fun j h => absurd h (Nat.not_lt_zero j)) (fun _ => by show wordB (bt s (k + 1 + 0)) = false; rw [Nat.add_zero, h60]; rfl)]
    have hh : handN s k = 0 := by
      unfold handN; rw [hw, if_neg]; rintro ⟨_, q⟩; rw [h60] at q; exact absurd q (by decide)
    have hu : urisN s true (k + 1) = 0 := by
      unfold urisN
      refine runP_eq (Nat.zero_le _) (fun j h => absurd h (Nat.not_lt_zero j)) (fun _ => ?_)
      rw [Nat.add_zero]; unfold okB; rw [h60]; rfl
    unfold sizeN
    rw [if_neg (fun q => hn q.2.2), hh, if_neg (by omega), hu]
  · intro hc
    unfold sizeN rhandN
    rw [if_neg (fun q => hc ⟨q.1, q.2.1⟩)]
    by_cases e : handN s k = 0
    · rw [if_pos e, if_neg (by omega)]
      by_cases e2 : 0 < urisN s true (k + 1)
      · rw [if_pos e2]
      · rw [if_neg e2, if_neg e2]; omega
    · rw [if_neg e]
      by_cases e2 : 0 < urisN s true (k + handN s k)
      · rw [if_pos ⟨by omega, e2⟩, if_pos e2]
      · rw [if_neg (fun q => e2 q.2), if_neg e2]
        split <;> omega
end Bk
end Go.Proofs.Ytmmhpejnfkienaa
