/- Part of package plai, and the reference's Part: contracts. -/
import Derived.Test.YtmmhpejnfkienaaPlai2
namespace Go.Proofs.Ytmmhpejnfkienaa
open Go Go.RowKit Go.PlainAid
set_option linter.unusedVariables false
namespace Bk
theorem endP_yes {s : ByteArray} {fl : Bool} (p : Nat) (h : endP s fl p = true) :
    ((bt s p == 35) = true ∧ (bt s p == 58) = false ∧ flowB (bt s p) = false ∧ 0 < p ∧ whiteB (bt s (p - 1)) = true) ∨
    ((bt s p == 35) = false ∧ (bt s p == 58) = false ∧ flowB (bt s p) = true ∧ fl = true) ∨
    ((bt s p == 35) = false ∧ (bt s p == 58) = true ∧ flowB (bt s p) = false ∧ endsB s ((p : Int) + 1) = true) ∨
    ((bt s p == 35) = false ∧ (bt s p == 58) = true ∧ flowB (bt s p) = false ∧ endsB s ((p : Int) + 1) = false ∧ fl = true ∧ flowB (bt s (p + 1)) = true) := by
  unfold endP at h
  by_cases h1 : bt s p = 35
  · rw [if_pos h1] at h
    simp only [Bool.and_eq_true, decide_eq_true_eq] at h
    exact .inl ⟨by simp [h1], by simp [h1], by rw [h1]; decide, h.1, h.2⟩
  · rw [if_neg h1] at h
    by_cases h2 : bt s p = 58
    · rw [if_pos h2] at h
      have hf : flowB (bt s p) = false := by rw [h2]; decide
      unfold stopsB at h
      cases he : endsB s ((p : Int) + 1) with
      | true => exact .inr (.inr (.inl ⟨by simp [h1], by simp [h2], hf, rfl⟩))
      | false =>
        rw [he, Bool.false_or, Bool.and_eq_true] at h
        exact .inr (.inr (.inr ⟨by simp [h1], by simp [h2], hf, rfl, h.1, h.2⟩))
    · rw [if_neg h2, Bool.and_eq_true] at h
      exact .inr (.inl ⟨by simp [h1], by simp [h2], h.2, h.1⟩)
theorem endP_no {s : ByteArray} {fl : Bool} (p : Nat) (h : endP s fl p = false) :
    ((bt s p == 35) = true ∧ (bt s p == 58) = false ∧ flowB (bt s p) = false ∧ ¬ 0 < p) ∨
    ((bt s p == 35) = true ∧ (bt s p == 58) = false ∧ flowB (bt s p) = false ∧ 0 < p ∧ whiteB (bt s (p - 1)) = false) ∨
    ((bt s p == 35) = false ∧ (bt s p == 58) = true ∧ flowB (bt s p) = false ∧ endsB s ((p : Int) + 1) = false ∧ fl = false) ∨
    ((bt s p == 35) = false ∧ (bt s p == 58) = true ∧ flowB (bt s p) = false ∧ endsB s ((p : Int) + 1) = false ∧ fl = true ∧ flowB (bt s (p + 1)) = false) ∨
    ((bt s p == 35) = false ∧ (bt s p == 58) = false ∧ fl = false) ∨
    ((bt s p == 35) = false ∧ (bt s p == 58) = false ∧ flowB (bt s p) = false ∧ fl = true) := by
  unfold endP at h
  by_cases h1 : bt s p = 35
  · rw [if_pos h1] at h
    have hf : flowB (bt s p) = false := by rw [h1]; decide
    by_cases h0 : 0 < p
    · rw [decide_eq_true h0, Bool.true_and] at h
      exact .inr (.inl ⟨by simp [h1], by simp [h1], hf, h0, h⟩)
    · exact .inl ⟨by simp [h1], by simp [h1], hf, h0⟩
  · rw [if_neg h1] at h
    by_cases h2 : bt s p = 58
    · rw [if_pos h2] at h
      have hf : flowB (bt s p) = false := by rw [h2]; decide
      unfold stopsB at h
      rw [Bool.or_eq_false_iff] at h
      cases fl with
      | false => exact .inr (.inr (.inl ⟨by simp [h1], by simp [h2], hf, h.1, rfl⟩))
      | true => exact .inr (.inr (.inr (.inl ⟨by simp [h1], by simp [h2], hf, h.1, rfl, by simpa using h.2⟩)))
    · rw [if_neg h2] at h
      cases fl with
      | false => exact .inr (.inr (.inr (.inr (.inl ⟨by simp [h1], by simp [h2], rfl⟩))))
      | true => exact .inr (.inr (.inr (.inr (.inr ⟨by simp [h1], by simp [h2], by simpa using h, rfl⟩))))
end Bk
set_option maxHeartbeats 6400000 in
theorem rpart_of (s : ByteArray) (k : Nat) (fl : Bool) (w : World) (hs : s.size ≤ 1000000) (hk : k < s.size) :
    Calls Try.prog 86 #[.string s, .int .i64 k, .bool fl] w fun e w' => e = .returned (.int .i64 (Bk.partN s k fl : Nat)) ∧ w = w' := by
  have hb := get_bt s
  have ht := Bk.toN_le (s := s) (k := k) (by omega)
  have hg := Bk.toN_ge s k
  have HA := Lib.hid (fun j (h : k ≤ j) (h1 : j < Bk.toN s k) => Bk.toN_all (s := s) h h1)
  have HN := Lib.hid (@Bk.toN_end s k)
  have HE := Lib.hid (fun n (h : k ≤ n) (h0 : n ≤ Bk.toN s k) => Bk.partE_eq (s := s) (fl := fl) h h0)
  have HP : Hid (Bk.partN s k fl = Bk.trimN s k (Bk.partE s k fl)) := Lib.hid (by rw [Bk.partN, if_neg (by omega)])
  obtain ⟨t, hT⟩ : ∃ t, t = Bk.toN s k := ⟨_, rfl⟩
  rw [← hT] at ht hg HA HN HE
  clear hT
  have HY := Lib.hid (Bk.endP_yes (s := s) (fl := fl))
  have HO := Lib.hid (Bk.endP_no (s := s) (fl := fl))
  obtain ⟨g, hgq⟩ : ∃ g, g = Bk.endP s fl := ⟨_, rfl⟩
  rw [← hgq] at HE HY HO
  clear hgq
  have hd0 : decide ((k : Int) < 0) = false := by simp
  have hd1 : decide (s.size ≤ k) = false := by simp; omega
  cases fl
  all_goals
    go_enter Try.func86, Try.ntmps86
    go_wp2_with fail
    go_loop [7] (fun i => ∃ p : Nat, k ≤ p ∧ p ≤ t ∧ i = .int .i64 p ∧ Hid (∀ j, k ≤ j → j < p → g j = false)) (fun i => t - (intOf i).toNat)
    case atStart => exact ⟨k, by omega, by omega, rfl, Lib.hid fun j _ _ => by omega⟩
    case round =>
      obtain ⟨p, hp, hp', rfl, H⟩ := hrel
      have hps : p ≤ s.size := by omega
      have e1 : 0 < p → ((p : Int) - 1).toNat = p - 1 := by omega
      have hnx : Bk.endsB s ((p : Int) + 1) = false → p + 1 < s.size := fun h => by
        apply Nat.lt_of_not_le
        intro h2
        rw [Bk.ends_out (.inr (by omega))] at h
        cases h
      by_cases hpt : p < t
      · have h10 : (bt s p != 10) = true := by simpa using HA.out p hp hpt
        have hpz : p < s.size := by omega
        cases hE : g p with
        | false =>
          have HE3 : Hid (∀ j, k ≤ j → j < p + 1 → g j = false) := Lib.hid fun j hj hj' => by
            by_cases e : j = p
            · subst e; exact hE
            · exact H.out j hj (by omega)
          have hw := HO.out p hE
          clear hE
          rcases hw with ⟨h1, h2, h3, h4⟩ | ⟨h1, h2, h3, h4, h5⟩ | ⟨h1, h2, h3, h4, hf⟩ | ⟨h1, h2, h3, h4, hf, h6⟩ | ⟨h1, h2, hf⟩ | ⟨h1, h2, h3, hf⟩
          all_goals (try cases hf)
          all_goals
            (try replace e1 := e1 (by assumption))
            (try replace hnx := hnx (by assumption))
            go_wp2_with first
              | (go_at_call 23; refine (rwhite_any _ _).mono ?_; rintro e w' ⟨rfl, rfl⟩)
              | (go_at_call 27; refine (rflow_any _ _).mono ?_; rintro e w' ⟨rfl, rfl⟩)
              | (go_at_call 34; refine (rends_any _ _ _).mono ?_; rintro e w' ⟨rfl, rfl⟩)
            go_round
            case rel => exact ⟨p + 1, by omega, by omega, by go_num, HE3⟩
            case measure => simp [intOf]; omega
        | true =>
          have HPE := Lib.hid (HP.out.trans (congrArg (Bk.trimN s k) (HE.out p hp hp' H.out (fun _ => hE))))
          have hw := HY.out p hE
          clear hE
          rcases hw with ⟨h1, h2, h3, h4, h5⟩ | ⟨h1, h2, h3, hf⟩ | ⟨h1, h2, h3, h4⟩ | ⟨h1, h2, h3, h4, hf, h6⟩
          all_goals (try cases hf)
          all_goals
            (try replace e1 := e1 (by assumption))
            (try replace hnx := hnx (by assumption))
            go_wp2_with first
              | (go_at_call 23; refine (rwhite_any _ _).mono ?_; rintro e w' ⟨rfl, rfl⟩)
              | (go_at_call 27; refine (rflow_any _ _).mono ?_; rintro e w' ⟨rfl, rfl⟩)
              | (go_at_call 34; refine (rends_any _ _ _).mono ?_; rintro e w' ⟨rfl, rfl⟩)
            (try clear e1)
            (try clear hnx)
            go_loop [7] (fun i => ∃ q : Nat, k ≤ q ∧ q ≤ p ∧ i = .int .i64 q ∧ Hid (∀ j, q ≤ j → j < p → Bk.whiteB (bt s j) = true)) (fun i => (intOf i).toNat)
            case atStart => exact ⟨p, by omega, by omega, rfl, Lib.hid fun j _ _ => by omega⟩
            case round =>
              obtain ⟨q, hq, hq', rfl, HW⟩ := hrel
              by_cases hkq : k < q
              · have e2 : ((q : Int) - 1).toNat = q - 1 := by omega
                cases hw : Bk.whiteB (bt s (q - 1)) with
                | true =>
                  have HC : Hid (Bk.whiteB (bt s (q - 1)) = true) := Lib.hid hw
                  go_wp2_with (go_at_call 23; refine (rwhite_any _ _).mono ?_; rintro e w' ⟨rfl, rfl⟩)
                  go_round
                  case rel =>
                    refine ⟨q - 1, by omega, by omega, by rw [Int.ofNat_sub (by omega)]; rfl, Lib.hid fun j hj hj' => ?_⟩
                    by_cases e : j = q - 1
                    · subst e; exact HC.out
                    · exact HW.out j (by omega) hj'
                  case measure => simp [intOf]; omega
                | false =>
                  have HF := Lib.hid (HPE.out.trans (Bk.trimN_eq hq' hq HW.out (fun _ => hw)))
                  go_wp2_with (go_at_call 23; refine (rwhite_any _ _).mono ?_; rintro e w' ⟨rfl, rfl⟩)
                  go_ret
                  exact ⟨ret_int (by rw [HF.out]), rfl⟩
              · have HF := Lib.hid (HPE.out.trans (Bk.trimN_eq hq' hq HW.out (fun h => absurd h hkq)))
                go_wp2
                go_ret
                exact ⟨ret_int (by rw [HF.out]), rfl⟩
      · have hpe : p = t := by omega
        have HPE := Lib.hid (HP.out.trans (congrArg (Bk.trimN s k) (HE.out p hp hp' H.out (fun h => absurd h hpt))))
        have hw : (¬ p < s.size) ∨ (p < s.size ∧ (bt s p != 10) = false) := by
          by_cases h1 : p < s.size
          · refine .inr ⟨h1, ?_⟩
            rw [hpe]; simpa using HN.out (by omega)
          · exact .inl h1
        clear hpe
        rcases hw with h | ⟨h, h0⟩
        all_goals
            go_wp2_with fail
            (try clear e1)
            (try clear hnx)
            go_loop [7] (fun i => ∃ q : Nat, k ≤ q ∧ q ≤ p ∧ i = .int .i64 q ∧ Hid (∀ j, q ≤ j → j < p → Bk.whiteB (bt s j) = true)) (fun i => (intOf i).toNat)
            case atStart => exact ⟨p, by omega, by omega, rfl, Lib.hid fun j _ _ => by omega⟩
            case round =>
              obtain ⟨q, hq, hq', rfl, HW⟩ := hrel
              by_cases hkq : k < q
              · have e2 : ((q : Int) - 1).toNat = q - 1 := by omega
                cases hw : Bk.whiteB (bt s (q - 1)) with
                | true =>
                  have HC : Hid (Bk.whiteB (bt s (q - 1)) = true) := Lib.hid hw
                  go_wp2_with (go_at_call 23; refine (rwhite_any _ _).mono ?_; rintro e w' ⟨rfl, rfl⟩)
                  go_round
                  case rel =>
                    refine ⟨q - 1, by omega, by omega, by rw [Int.ofNat_sub (by omega)]; rfl, Lib.hid fun j hj hj' => ?_⟩
                    by_cases e : j = q - 1
                    · subst e; exact HC.out
                    · exact HW.out j (by omega) hj'
                  case measure => simp [intOf]; omega
                | false =>
                  have HF := Lib.hid (HPE.out.trans (Bk.trimN_eq hq' hq HW.out (fun _ => hw)))
                  go_wp2_with (go_at_call 23; refine (rwhite_any _ _).mono ?_; rintro e w' ⟨rfl, rfl⟩)
                  go_ret
                  exact ⟨ret_int (by rw [HF.out]), rfl⟩
              · have HF := Lib.hid (HPE.out.trans (Bk.trimN_eq hq' hq HW.out (fun h => absurd h hkq)))
                go_wp2
                go_ret
                exact ⟨ret_int (by rw [HF.out]), rfl⟩
theorem rpart_any (s : ByteArray) (a : Int) (fl : Bool) (w : World) (hs : s.size ≤ 1000000) (ha : 0 ≤ a) :
    Calls Try.prog 86 #[.string s, .int .i64 a, .bool fl] w fun e w' => e = .returned (.int .i64 (Bk.partN s a.toNat fl : Nat)) ∧ w = w' := by
  obtain ⟨k, rfl⟩ := Int.eq_ofNat_of_zero_le ha
  rw [Int.toNat_natCast]
  by_cases hk : k < s.size
  · exact rpart_of s k fl w hs hk
  · have HP : Hid (Bk.partN s k fl = k) := Lib.hid (by rw [Bk.partN, if_pos (by omega)])
    go_enter Try.func86, Try.ntmps86
    go_wp2
    go_ret
    exact ⟨ret_int (by rw [HP.out]), rfl⟩
end Go.Proofs.Ytmmhpejnfkienaa
