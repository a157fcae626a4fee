/- Plain scalars: where one may begin, where a part ends: plain functions; contracts of there, stops, Begins, ends, white of package plai, and of the reference's Begins. -/
import Derived.Test.YtmmhpejnfkienaaRow6
namespace Go.Proofs.Ytmmhpejnfkienaa
open Go Go.RowKit Go.PlainAid
set_option linter.unusedVariables false
namespace Bk
/-- Nothing of a plain scalar may stand behind a sign at a place. -/
def stopsB (s : ByteArray) (k : Nat) (fl : Bool) : Bool := endsB s ((k : Int) + 1) || (fl && flowB (bt s (k + 1)))
def signB (c : Int) : Bool := c == 45 || c == 63 || c == 58
/-- May a plain scalar begin at a place? -/
def beginsB (s : ByteArray) (k : Nat) (fl : Bool) : Bool := !endsB s (k : Int) && (if signB (bt s k) then !stopsB s k fl else !indB (bt s k))
/-- Does a part end at a place? -/
def endP (s : ByteArray) (fl : Bool) (i : Nat) : Bool := if bt s i = 35 then decide (0 < i) && whiteB (bt s (i - 1)) else if bt s i = 58 then stopsB s i fl else fl && flowB (bt s i)
/-- Where a part ends that begins at a place, white at its end with it. -/
def partE (s : ByteArray) (k : Nat) (fl : Bool) : Nat := k + runP (fun i => !endP s fl i) (toN s k - k) k
/-- A place without the white ahead of it, back to another. -/
def trimN (s : ByteArray) (k e : Nat) : Nat := backP (fun i => decide (k ≤ i) && whiteB (bt s i)) e
def partN (s : ByteArray) (k : Nat) (fl : Bool) : Nat := if s.size ≤ k then k else trimN s k (partE s k fl)
theorem partE_ge (s : ByteArray) (k : Nat) (fl : Bool) : k ≤ partE s k fl := Nat.le_add_right _ _
theorem partE_le (s : ByteArray) (k : Nat) (fl : Bool) : partE s k fl ≤ toN s k := by
  unfold partE; have := runP_le (fun i => !endP s fl i) (toN s k - k) k; have := toN_ge s k; omega
theorem partE_eq {s : ByteArray} {k n : Nat} {fl : Bool} (h : k ≤ n) (h0 : n ≤ toN s k) (h1 : ∀ j, k ≤ j → j < n → endP s fl j = false) (h2 : n < toN s k → endP s fl n = true) : partE s k fl = n := by
  unfold partE
  have : runP (fun i => !endP s fl i) (toN s k - k) k = n - k := by
    refine runP_eq (by omega) (fun j hj => ?_) (fun hj => ?_)
    · rw [h1 (k + j) (by omega) (by omega)]; rfl
    · rw [show k + (n - k) = n from by omega, h2 (by omega)]; rfl
  omega
theorem trimN_le (s : ByteArray) (k e : Nat) : trimN s k e ≤ e := backP_le _ _
theorem trimN_eq {s : ByteArray} {k e n : Nat} (h : n ≤ e) (hk : k ≤ n) (h1 : ∀ j, n ≤ j → j < e → whiteB (bt s j) = true) (h2 : k < n → whiteB (bt s (n - 1)) = false) : trimN s k e = n := by
  refine backP_eq h (fun j a b => ?_) (fun a => ?_)
  · rw [h1 j a b, decide_eq_true (by omega)]; rfl
  · by_cases e : k < n
    · rw [h2 e, Bool.and_false]
    · rw [decide_eq_false (by omega), Bool.false_and]
theorem trimN_ge {s : ByteArray} {k e : Nat} (h : k ≤ e) : k ≤ trimN s k e := by
  have h3 := backP_end (fun i => decide (k ≤ i) && whiteB (bt s i)) e
  rcases Nat.lt_or_ge (trimN s k e) k with h1 | h1
  · exfalso
    have h2 := backP_all (fun i => decide (k ≤ i) && whiteB (bt s i)) e (trimN s k e) (Nat.le_refl _) (by omega)
    rw [decide_eq_false (by omega), Bool.false_and] at h2
    exact absurd h2 (by decide)
  · exact h1
theorem partN_ge (s : ByteArray) (k : Nat) (fl : Bool) : k ≤ partN s k fl := by
  unfold partN
  split
  · exact Nat.le_refl _
  · exact trimN_ge (partE_ge s k fl)
theorem partN_le (s : ByteArray) (k : Nat) (fl : Bool) : partN s k fl ≤ toN s k := by
  unfold partN
  split
  · exact toN_ge s k
  · exact Nat.le_trans (trimN_le _ _ _) (partE_le _ _ _)
end Bk
set_option maxHeartbeats 400000 in
theorem there_any (s : ByteArray) (a : Int) (w : World) (ha : 0 ≤ a) :
    Calls Try.prog 90 #[.string s, .int .i64 a] w fun e w' => e = .returned (.bool (decide (a.toNat < s.size))) ∧ w = w' := by
  obtain ⟨k, rfl⟩ := Int.eq_ofNat_of_zero_le ha
  rw [Int.toNat_natCast]
  by_cases h : k < s.size
  all_goals
    go_enter Try.func90, Try.ntmps90
    go_wp2
    go_ret
    exact ⟨ret_bool (by simp [h]), rfl⟩
set_option maxHeartbeats 400000 in
theorem stops_any (s : ByteArray) (k : Nat) (fl : Bool) (w : World) (hs : s.size ≤ 1000000) (hk : k < s.size) :
    Calls Try.prog 89 #[.string s, .int .i64 k, .bool fl] w fun e w' => e = .returned (.bool (Bk.stopsB s k fl)) ∧ w = w' := by
  have hb := get_bt s
  cases hE : Bk.endsB s ((k : Int) + 1) with
  | true =>
    go_enter Try.func89, Try.ntmps89
    go_wp2_with (go_at_call 33; refine (ends_any _ _ _).mono ?_; rintro e w' ⟨rfl, rfl⟩)
    go_ret
    exact ⟨ret_bool (by simp [Bk.stopsB, hE]), rfl⟩
  | false =>
    have hlt : k + 1 < s.size := by
      apply Nat.lt_of_not_le
      intro h
      rw [Bk.ends_out (.inr (by omega))] at hE
      cases hE
    cases fl
    all_goals
      go_enter Try.func89, Try.ntmps89
      go_wp2_with first
        | (go_at_call 33; refine (ends_any _ _ _).mono ?_; rintro e w' ⟨rfl, rfl⟩)
        | (go_at_call 26; refine (flow_any _ _).mono ?_; rintro e w' ⟨rfl, rfl⟩)
      go_ret
      exact ⟨ret_bool (by simp [Bk.stopsB, hE]), rfl⟩
namespace Bk
theorem sign_ind {c : Int} (h : signB c = true) : indB c = true := by
  simp [signB] at h
  rcases h with (rfl | rfl) | rfl <;> decide
theorem sign_no {c : Int} (h : signB c = false) : (c == 45) = false ∧ (c == 63) = false ∧ (c == 58) = false ∧ (c != 45) = true ∧ (c != 63) = true ∧ (c != 58) = true := by
  simp [signB, and_assoc] at h
  simp [h]
end Bk
set_option maxHeartbeats 1600000 in
theorem begins_any (s : ByteArray) (a : Int) (fl : Bool) (w : World) (hs : s.size ≤ 1000000) (ha : 0 ≤ a) :
    Calls Try.prog 65 #[.string s, .int .i64 a, .bool fl] w fun e w' => e = .returned (.bool (Bk.beginsB s a.toNat fl)) ∧ w = w' := by
  obtain ⟨k, rfl⟩ := Int.eq_ofNat_of_zero_le ha
  rw [Int.toNat_natCast]
  have hb := get_bt s
  by_cases hk : k < s.size
  · have hd : decide (k < s.size) = true := by simp [hk]
    have HD := Lib.hid hd
    clear hd
    cases hE : Bk.endsB s (k : Int) with
    | true =>
      go_enter Try.func65, Try.ntmps65
      go_wp2_with first
        | (go_at_call 90; refine (there_any _ _ _ (by omega)).mono ?_; rintro e w' ⟨rfl, rfl⟩; rw [Int.toNat_natCast, HD.out])
        | (go_at_call 33; refine (ends_any _ _ _).mono ?_; rintro e w' ⟨rfl, rfl⟩)
      go_ret
      exact ⟨ret_bool (by simp [Bk.beginsB, hE]), rfl⟩
    | false =>
      cases hS : Bk.signB (bt s k) with
      | true =>
        have HB : Hid (Bk.beginsB s k fl = !Bk.stopsB s k fl) := Lib.hid (by simp [Bk.beginsB, hE, hS])
        have h3 : bt s k = 45 ∨ bt s k = 63 ∨ bt s k = 58 := by simpa [Bk.signB, or_assoc] using hS
        clear hS
        cases hT : Bk.stopsB s k fl
        all_goals
          rcases h3 with h3 | h3 | h3
          all_goals
            go_enter Try.func65, Try.ntmps65
            go_wp2_with first
              | (go_at_call 90; refine (there_any _ _ _ (by omega)).mono ?_; rintro e w' ⟨rfl, rfl⟩; rw [Int.toNat_natCast, HD.out])
              | (go_at_call 33; refine (ends_any _ _ _).mono ?_; rintro e w' ⟨rfl, rfl⟩)
              | (go_at_call 89; refine (stops_any _ _ _ _ hs hk).mono ?_; rintro e w' ⟨rfl, rfl⟩)
            go_ret
            exact ⟨ret_bool (by rw [HB.out, hT]; rfl), rfl⟩
      | false =>
        have HB : Hid (Bk.beginsB s k fl = !Bk.indB (bt s k)) := Lib.hid (by simp [Bk.beginsB, hE, hS])
        obtain ⟨h1, h2, h3, _, _, _⟩ := Bk.sign_no hS
        clear hS
        go_enter Try.func65, Try.ntmps65
        go_wp2_with first
          | (go_at_call 90; refine (there_any _ _ _ (by omega)).mono ?_; rintro e w' ⟨rfl, rfl⟩; rw [Int.toNat_natCast, HD.out])
          | (go_at_call 33; refine (ends_any _ _ _).mono ?_; rintro e w' ⟨rfl, rfl⟩)
          | (go_at_call 24; refine (ind_any _ _).mono ?_; rintro e w' ⟨rfl, rfl⟩)
        go_ret
        exact ⟨ret_bool (by rw [HB.out]), rfl⟩
  · have HD : Hid (decide (k < s.size) = false) := Lib.hid (by simp [hk])
    have HE : Hid (Bk.beginsB s k fl = false) := Lib.hid (by simp [Bk.beginsB, Bk.ends_out (s := s) (a := (k : Int)) (.inr (by omega))])
    go_enter Try.func65, Try.ntmps65
    go_wp2_with (go_at_call 90; refine (there_any _ _ _ (by omega)).mono ?_; rintro e w' ⟨rfl, rfl⟩; rw [Int.toNat_natCast, HD.out])
    go_ret
    exact ⟨ret_bool (by rw [HE.out]), rfl⟩
set_option maxHeartbeats 1600000 in
theorem rbegins_any (s : ByteArray) (a : Int) (fl : Bool) (w : World) (hs : s.size ≤ 1000000) (ha : 0 ≤ a) :
    Calls Try.prog 85 #[.string s, .int .i64 a, .bool fl] w fun e w' => e = .returned (.bool (Bk.beginsB s a.toNat fl)) ∧ w = w' := by
  obtain ⟨k, rfl⟩ := Int.eq_ofNat_of_zero_le ha
  rw [Int.toNat_natCast]
  have hb := get_bt s
  cases hE : Bk.endsB s (k : Int) with
  | true =>
    go_enter Try.func85, Try.ntmps85
    go_wp2_with (go_at_call 34; refine (rends_any _ _ _).mono ?_; rintro e w' ⟨rfl, rfl⟩)
    go_ret
    exact ⟨ret_bool (by simp [Bk.beginsB, hE]), rfl⟩
  | false =>
    have hk : k < s.size := by
      apply Nat.lt_of_not_le
      intro h
      rw [Bk.ends_out (.inr (by omega))] at hE
      cases hE
    cases hI : Bk.indB (bt s k) with
    | false =>
      have hS : Bk.signB (bt s k) = false := by
        cases h : Bk.signB (bt s k) with
        | false => rfl
        | true => rw [Bk.sign_ind h] at hI; cases hI
      have HB : Hid (Bk.beginsB s k fl = true) := Lib.hid (by simp [Bk.beginsB, hE, hS, hI])
      go_enter Try.func85, Try.ntmps85
      go_wp2_with first
        | (go_at_call 34; refine (rends_any _ _ _).mono ?_; rintro e w' ⟨rfl, rfl⟩)
        | (go_at_call 25; refine (rind_any _ _).mono ?_; rintro e w' ⟨rfl, rfl⟩)
      go_ret
      exact ⟨ret_bool (by rw [HB.out]), rfl⟩
    | true =>
      cases hS : Bk.signB (bt s k) with
      | false =>
        have HB : Hid (Bk.beginsB s k fl = false) := Lib.hid (by simp [Bk.beginsB, hE, hS, hI])
        obtain ⟨_, _, _, h1, h2, h3⟩ := Bk.sign_no hS
        clear hS
        go_enter Try.func85, Try.ntmps85
        go_wp2_with first
          | (go_at_call 34; refine (rends_any _ _ _).mono ?_; rintro e w' ⟨rfl, rfl⟩)
          | (go_at_call 25; refine (rind_any _ _).mono ?_; rintro e w' ⟨rfl, rfl⟩)
        go_ret
        exact ⟨ret_bool (by rw [HB.out]), rfl⟩
      | true =>
        have HB : Hid (Bk.beginsB s k fl = !Bk.stopsB s k fl) := Lib.hid (by simp [Bk.beginsB, hE, hS])
        have h3 : bt s k = 45 ∨ bt s k = 63 ∨ bt s k = 58 := by simpa [Bk.signB, or_assoc] using hS
        clear hS
        cases hF : Bk.endsB s ((k : Int) + 1) with
        | true =>
          have HT : Hid (Bk.beginsB s k fl = false) := Lib.hid (by rw [HB.out]; simp [Bk.stopsB, hF])
          rcases h3 with h3 | h3 | h3
          all_goals
            go_enter Try.func85, Try.ntmps85
            go_wp2_with first
              | (go_at_call 34; refine (rends_any _ _ _).mono ?_; rintro e w' ⟨rfl, rfl⟩)
              | (go_at_call 25; refine (rind_any _ _).mono ?_; rintro e w' ⟨rfl, rfl⟩)
            go_ret
            exact ⟨ret_bool (by rw [HT.out]), rfl⟩
        | false =>
          have hlt : k + 1 < s.size := by
            apply Nat.lt_of_not_le
            intro h
            rw [Bk.ends_out (.inr (by omega))] at hF
            cases hF
          have HT : Hid (Bk.beginsB s k fl = !(fl && Bk.flowB (bt s (k + 1)))) := Lib.hid (by rw [HB.out]; simp [Bk.stopsB, hF])
          cases fl
          all_goals
            rcases h3 with h3 | h3 | h3
            all_goals
              go_enter Try.func85, Try.ntmps85
              go_wp2_with first
                | (go_at_call 34; refine (rends_any _ _ _).mono ?_; rintro e w' ⟨rfl, rfl⟩)
                | (go_at_call 25; refine (rind_any _ _).mono ?_; rintro e w' ⟨rfl, rfl⟩)
                | (go_at_call 27; refine (rflow_any _ _).mono ?_; rintro e w' ⟨rfl, rfl⟩)
              go_ret
              exact ⟨ret_bool (by rw [HT.out]; rfl), rfl⟩
end Go.Proofs.Ytmmhpejnfkienaa
