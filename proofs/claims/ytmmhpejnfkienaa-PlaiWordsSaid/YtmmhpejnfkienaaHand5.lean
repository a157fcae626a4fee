/- The reference's Size: contract. -/
import Derived.Test.YtmmhpejnfkienaaHand4
namespace Go.Proofs.Ytmmhpejnfkienaa
open Go Go.RowKit Go.PlainAid
set_option linter.unusedVariables false
theorem Bk.rhandN_le {s : ByteArray} {k : Nat} (h : k < s.size) : k + Bk.rhandN s k ≤ s.size ∧ 1 ≤ Bk.rhandN s k := by
  have := Bk.hand_le (s := s) (k := k)
  unfold Bk.rhandN
  split <;> omega
set_option maxHeartbeats 3200000 in
theorem rsize_any (s : ByteArray) (k : Nat) (w : World) (hs : s.size ≤ 4611686018427387903) (hk : k < s.size) (h33 : bt s k = 33) :
    Calls Try.prog 95 #[.string s, .int .i64 k] w fun e w' => e = .returned (.int .i64 (Bk.sizeN s k : Nat)) ∧ w = w' := by
  have hb := get_bt s
  have hbs : (bt s k != 33) = false := by rw [h33]; rfl
  have HR := Lib.hid (Bk.size_ref (s := s) (k := k))
  have d0 : decide ((k : Int) < 0) = false := by simp
  have d1 : decide (s.size ≤ k) = false := by simpa using hk
  clear h33
  by_cases hcut : k + 1 < s.size ∧ bt s (k + 1) = 60
  · obtain ⟨c1, c2⟩ := hcut
    have h60 : (bt s (k + 1) == 60) = true := by rw [c2]; rfl
    have C2 := Lib.hid c2
    clear c2
    have HU : Hid (Bk.urisN s false (k + 2) = Bk.runP (Bk.okB s false) (s.size - (k + 2)) (k + 2)) := Lib.hid rfl
    have HSZ : Hid (Bk.sizeN s k = if k + 1 < s.size ∧ bt s (k + 1) = 60 ∧ 0 < Bk.urisN s false (k + 2) ∧ k + 2 + Bk.urisN s false (k + 2) < s.size ∧ bt s (k + 2 + Bk.urisN s false (k + 2)) = 62 then Bk.urisN s false (k + 2) + 3
      else if 0 < Bk.handN s k ∧ 0 < Bk.urisN s true (k + Bk.handN s k) then Bk.handN s k + Bk.urisN s true (k + Bk.handN s k) else 1 + Bk.urisN s true (k + 1)) := Lib.hid rfl
    go_enter Try.func95, Try.ntmps95
    go_wp2
    go_loop [5] (fun i => ∃ n : Nat, 2 ≤ n ∧ (n = 2 ∨ k + n ≤ s.size) ∧ i = .int .i64 n ∧ Hid (∀ j, j < n - 2 → Bk.okB s false (k + 2 + j) = true)) (fun i => s.size + 2 - (intOf i).toNat)
    case atStart => exact ⟨2, by omega, by omega, rfl, Lib.hid fun j h => absurd h (by omega)⟩
    case round =>
      obtain ⟨n, h2, hn, rfl, H⟩ := hrel
      rcases Bk.unit_way s (k + n) with ⟨u0, hno⟩ | ⟨u0, hlt, huri, h37⟩ | ⟨u0, hlt, o1, o2, o3, h33, hfl⟩
      · have HE : Hid (Bk.urisN s false (k + 2) = n - 2) := Lib.hid (HU.out.trans (Bk.runP_eq (by omega) H.out (fun h => by rw [show k + 2 + (n - 2) = k + n from by omega]; exact hno (by omega) false)))
        clear hno
        by_cases hgt : 2 < n ∧ k + n < s.size ∧ bt s (k + n) = 62
        · obtain ⟨g1, g2, g3⟩ := hgt
          have HF : Hid (Bk.sizeN s k = n + 1) := Lib.hid (by
            rw [HSZ.out, HE.out, if_pos ⟨c1, C2.out, by omega, by omega, by rw [show k + 2 + (n - 2) = k + n from by omega]; exact g3⟩]; omega)
          have g4 : (bt s (k + n) == 62) = true := by rw [g3]; rfl
          clear g3
          go_wp2_with (go_at_call 103; refine (runit_any s (k + n) _ hs).mono ?_; rintro e w' ⟨rfl, rfl⟩)
          go_ret
          exact ⟨ret_int (by rw [HF.out]; omega), rfl⟩
        · have HF : Hid (Bk.sizeN s k = 1) := Lib.hid (HR.out.1 c1 C2.out (by
            rw [HE.out, show k + 2 + (n - 2) = k + n from by omega]
            rintro ⟨q1, q2, q3⟩
            exact hgt ⟨by omega, q2, q3⟩))
          have hway : n ≤ 2 ∨ (2 < n ∧ s.size ≤ k + n) ∨ (2 < n ∧ k + n < s.size ∧ (bt s (k + n) == 62) = false) := by
            by_cases q1 : 2 < n
            · by_cases q2 : k + n < s.size
              · exact .inr (.inr ⟨q1, q2, by simpa using fun q3 => hgt ⟨q1, q2, q3⟩⟩)
              · exact .inr (.inl ⟨q1, by omega⟩)
            · exact .inl (by omega)
          clear hgt
          rcases hway with q1 | ⟨q1, q2⟩ | ⟨q1, q2, q3⟩
          all_goals
            go_wp2_with (go_at_call 103; refine (runit_any s (k + n) _ hs).mono ?_; rintro e w' ⟨rfl, rfl⟩)
            go_ret
            exact ⟨ret_int (by rw [HF.out]; rfl), rfl⟩
      · have HK : Hid (Bk.okB s false (k + n) = true) := Lib.hid (by unfold Bk.okB; rw [huri, h37]; simp)
        clear huri h37
        go_wp2_with (go_at_call 103; refine (runit_any s (k + n) _ hs).mono ?_; rintro e w' ⟨rfl, rfl⟩)
        go_round
        case rel =>
          refine ⟨n + 1, by omega, by omega, by go_num, Lib.hid fun j hj => ?_⟩
          by_cases e : j = n - 2
          · subst e; rw [show k + 2 + (n - 2) = k + n from by omega]; exact HK.out
          · exact H.out j (by omega)
        case measure => simp [intOf]; omega
      · have HK : Hid (Bk.okB s false (k + n) = true ∧ Bk.okB s false (k + n + 1) = true ∧ Bk.okB s false (k + n + 2) = true) := Lib.hid ⟨o1 false, o2 false, o3 false⟩
        clear o1 o2 o3
        go_wp2_with (go_at_call 103; refine (runit_any s (k + n) _ hs).mono ?_; rintro e w' ⟨rfl, rfl⟩)
        go_round
        case rel =>
          refine ⟨n + 3, by omega, by omega, by go_num, Lib.hid fun j hj => ?_⟩
          rcases (by omega : j < n - 2 ∨ j = n - 2 ∨ j = n - 1 ∨ j = n) with e | e | e | e
          · exact H.out j e
          · subst e; rw [show k + 2 + (n - 2) = k + n from by omega]; exact HK.out.1
          · subst e; rw [show k + 2 + (n - 1) = k + n + 1 from by omega]; exact HK.out.2.1
          · subst e; rw [show k + 2 + j = k + j + 2 from by omega]; exact HK.out.2.2
        case measure => simp [intOf]; omega
  · have HF := Lib.hid (HR.out.2 hcut)
    have hcw : k + 1 < s.size → (bt s (k + 1) == 60) = false := fun q => by simpa using fun q2 => hcut ⟨q, q2⟩
    have hr := Bk.rhandN_le hk
    have u1 := Bk.uris_le s true (k + Bk.rhandN s k)
    have u2 := Bk.uris_le s true (k + 1)
    have E1 : Hid ((k : Int) + (Bk.rhandN s k : Nat) = ((k + Bk.rhandN s k : Nat) : Int)) := Lib.hid (by omega)
    have E2 : Hid ((k : Int) + 1 = ((k + 1 : Nat) : Int)) := Lib.hid (by omega)
    clear hcut
    by_cases c1 : k + 1 < s.size
    all_goals
      (try have h60 := hcw c1)
      clear hcw
      by_cases e1 : 0 < Bk.urisN s true (k + Bk.rhandN s k)
      · have HG : Hid (Bk.sizeN s k = Bk.rhandN s k + Bk.urisN s true (k + Bk.rhandN s k)) := Lib.hid (by rw [HF.out, if_pos e1])
        go_enter Try.func95, Try.ntmps95
        go_wp2_with first
          | (go_at_call 104; refine (rhandle_any _ _ _ hs hk).mono ?_; rintro e w' ⟨rfl, rfl⟩)
          | (go_at_call 105; rw [E1.out]; with_reducible refine (rsuffix_any s (k + Bk.rhandN s k) _ hs (by omega)).mono ?_; rintro e w' ⟨rfl, rfl⟩)
        all_goals (go_ret; exact ⟨ret_int (by rw [HG.out]; omega), rfl⟩)
      · by_cases e2 : 0 < Bk.urisN s true (k + 1)
        · have HG : Hid (Bk.sizeN s k = 1 + Bk.urisN s true (k + 1)) := Lib.hid (by rw [HF.out, if_neg e1, if_pos e2])
          go_enter Try.func95, Try.ntmps95
          go_wp2_with first
            | (go_at_call 104; refine (rhandle_any _ _ _ hs hk).mono ?_; rintro e w' ⟨rfl, rfl⟩)
            | (go_at_call 105; rw [E1.out]; with_reducible refine (rsuffix_any s (k + Bk.rhandN s k) _ hs (by omega)).mono ?_; rintro e w' ⟨rfl, rfl⟩)
            | (go_at_call 105; rw [E2.out]; with_reducible refine (rsuffix_any s (k + 1) _ hs (by omega)).mono ?_; rintro e w' ⟨rfl, rfl⟩)
          all_goals (go_ret; exact ⟨ret_int (by rw [HG.out]; omega), rfl⟩)
        · have HG : Hid (Bk.sizeN s k = 1) := Lib.hid (by rw [HF.out, if_neg e1, if_neg e2])
          go_enter Try.func95, Try.ntmps95
          go_wp2_with first
            | (go_at_call 104; refine (rhandle_any _ _ _ hs hk).mono ?_; rintro e w' ⟨rfl, rfl⟩)
            | (go_at_call 105; rw [E1.out]; with_reducible refine (rsuffix_any s (k + Bk.rhandN s k) _ hs (by omega)).mono ?_; rintro e w' ⟨rfl, rfl⟩)
            | (go_at_call 105; rw [E2.out]; with_reducible refine (rsuffix_any s (k + 1) _ hs (by omega)).mono ?_; rintro e w' ⟨rfl, rfl⟩)
          all_goals (go_ret; exact ⟨ret_int (by rw [HG.out]; rfl), rfl⟩)
end Go.Proofs.Ytmmhpejnfkienaa
