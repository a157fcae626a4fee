/- Read of package prop: contract. -/
import Derived.Test.YtmmhpejnfkienaaProp1
import Derived.BigQuiet
namespace Go.Proofs.Ytmmhpejnfkienaa
open Go Go.RowKit Go.PlainAid
set_option linter.unusedVariables false
namespace Bk
/-- The properties from a place on. -/
def readP (s : ByteArray) (flow : Bool) : Nat → Nat → ByteArray → ByteArray → Nat → ByteArray × ByteArray × Nat × Int
  | 0, _, a, t, e => (a, t, e, 0)
  | f + 1, p, a, t, e =>
    if (oneN s p a t).2.1 ≠ 0 then (ByteArray.empty, ByteArray.empty, (oneN s p a t).1, (oneN s p a t).2.1)
    else if (oneN s p a t).1 = p then ((oneN s p a t).2.2.1, (oneN s p a t).2.2.2, e, 0)
    else if endsB s ((oneN s p a t).1 : Int) = false ∧ (flow && flowB (bt s (oneN s p a t).1)) = false then (ByteArray.empty, ByteArray.empty, (oneN s p a t).1, 5)
    else if firstN s (oneN s p a t).1 s.size = (oneN s p a t).1 then ((oneN s p a t).2.2.1, (oneN s p a t).2.2.2, (oneN s p a t).1, 0)
    else readP s flow f (firstN s (oneN s p a t).1 s.size) (oneN s p a t).2.2.1 (oneN s p a t).2.2.2 (oneN s p a t).1
theorem one_way (s : ByteArray) (p : Nat) (a t : ByteArray) : ((oneN s p a t).2.1 = 5 ∧ (oneN s p a t).1 = p) ∨ ((oneN s p a t).2.1 = 0 ∧ ((oneN s p a t).1 = p ∨ (p < (oneN s p a t).1 ∧ (oneN s p a t).1 ≤ s.size))) := by
  unfold oneN
  split
  · exact .inr ⟨rfl, .inl rfl⟩
  · rename_i h
    split
    · split
      · exact .inl ⟨rfl, rfl⟩
      · have := nameN_le (s := s) (k := p + 1) (by omega)
        exact .inr ⟨rfl, .inr ⟨by show p < p + 1 + _; omega, by show p + 1 + _ ≤ _; omega⟩⟩
    · split
      · split
        · exact .inl ⟨rfl, rfl⟩
        · have := size_le (s := s) (k := p) (by omega)
          exact .inr ⟨rfl, .inr ⟨by show p < p + _; omega, by show p + _ ≤ _; omega⟩⟩
      · exact .inr ⟨rfl, .inl rfl⟩
/-- All that Read tells of any place. -/
def readA (s : ByteArray) (at_ : Int) (flow : Bool) : ByteArray × ByteArray × Int × Int :=
  if at_ < 0 then (ByteArray.empty, ByteArray.empty, at_, 0)
  else ((readP s flow (s.size + 1) at_.toNat ByteArray.empty ByteArray.empty at_.toNat).1, (readP s flow (s.size + 1) at_.toNat ByteArray.empty ByteArray.empty at_.toNat).2.1, ((readP s flow (s.size + 1) at_.toNat ByteArray.empty ByteArray.empty at_.toNat).2.2.1 : Int), (readP s flow (s.size + 1) at_.toNat ByteArray.empty ByteArray.empty at_.toNat).2.2.2)
end Bk
/-- What Read hands back. -/
def back4 (R : ByteArray × ByteArray × Nat × Int) : Ending := .returned (.tuple #[.string R.1, .string R.2.1, .int .i64 (R.2.2.1 : Int), .int .i64 R.2.2.2])
set_option maxRecDepth 20000 in
set_option maxHeartbeats 3200000 in
theorem read_nat (s : ByteArray) (p0 : Nat) (flow : Bool) (w : World) (hs : s.size ≤ 4611686018427387903) (hp0 : p0 ≤ 9223372036854775807) :
    Calls Try.prog 52 #[.string s, .int .i64 p0, .bool flow] w fun e w' => e = back4 (Bk.readP s flow (s.size + 1) p0 ByteArray.empty ByteArray.empty p0) ∧ Below w.heap.size w w' := by
  have hb := get_bt s
  obtain ⟨R, hR⟩ : ∃ R, R = Bk.readP s flow (s.size + 1) p0 ByteArray.empty ByteArray.empty p0 := ⟨_, rfl⟩
  rw [← hR]
  have HR := Lib.hid hR
  clear hR
  obtain ⟨fl, hfl0⟩ : ∃ fl, fl = flow := ⟨_, rfl⟩
  obtain ⟨F, hF⟩ : ∃ F, F = Bk.readP s fl := ⟨_, rfl⟩
  have HRF : Hid (R = F (s.size + 1) p0 ByteArray.empty ByteArray.empty p0) := Lib.hid (by rw [hF, hfl0]; exact HR.out)
  have HF := Lib.hid hF
  have HFL := Lib.hid hfl0
  clear hF HR hfl0
  cases flow
  all_goals
    go_enter Try.func52, Try.ntmps52
    go_wp2_with fail
    go_loopw [1, 11] (fun i j wr => ∃ (f p e : Nat) (a t : ByteArray), (p = p0 ∨ p ≤ s.size) ∧ s.size < f + p ∧ 1 ≤ f ∧ i = .int .i64 p ∧ j = .int .i64 e ∧ wr = w.alloc (.cells #[.string s, .string a, .string t] 69) ∧ Hid (R = F f p a t e)) (fun i _ _ => s.size - (intOf i).toNat)
    case atStart => exact ⟨s.size + 1, p0, p0, ByteArray.empty, ByteArray.empty, .inl rfl, by omega, by omega, rfl, rfl, rfl, HRF⟩
    case round =>
      obtain ⟨f, p, e, a, t, hp, hf, hf1, rfl, rfl, rfl, H⟩ := hrel
      obtain ⟨f, rfl⟩ : ∃ g, f = g + 1 := ⟨f - 1, by omega⟩
      have hw := Bk.one_way s p a t
      obtain ⟨O, hO⟩ : ∃ O, O = Bk.oneN s p a t := ⟨_, rfl⟩
      have HS : Hid (R = if O.2.1 ≠ 0 then (ByteArray.empty, ByteArray.empty, O.1, O.2.1)
        else if O.1 = p then (O.2.2.1, O.2.2.2, e, 0)
        else if Bk.endsB s (O.1 : Int) = false ∧ (fl && Bk.flowB (bt s O.1)) = false then (ByteArray.empty, ByteArray.empty, O.1, 5)
        else if Bk.firstN s O.1 s.size = O.1 then (O.2.2.1, O.2.2.2, O.1, 0)
        else F f (Bk.firstN s O.1 s.size) O.2.2.1 O.2.2.2 O.1) := Lib.hid (by rw [H.out, HF.out, hO]; rfl)
      rw [← hO] at hw
      have HO := Lib.hid hO
      clear hO
      obtain ⟨q, er, a', t'⟩ := O
      simp only at hw HS
      rcases hw with ⟨h5, hq⟩ | ⟨h5, hq | ⟨hq, hq2⟩⟩
      · subst h5 hq
        have HE : Hid (R = (ByteArray.empty, ByteArray.empty, q, 5)) := Lib.hid (by rw [HS.out]; rfl)
        go_wp2_with (go_at_call 76; refine (one_any _ _ _ _ _ hs (by omega)).mono ?_; rintro e w' ⟨rfl, rfl⟩; rw [← HO.out])
        refine bodyPost_ret (v := .tuple #[.string ByteArray.empty, .string ByteArray.empty, .int .i64 q, .int .i64 5]) (by simp [results, Try.results52, go_sem]; try rfl) rfl ⟨by rw [HE.out]; rfl, by go_grown⟩
      · subst h5 hq
        have HE : Hid (R = (a', t', e, 0)) := Lib.hid (by rw [HS.out]; simp)
        go_wp2_with (go_at_call 76; refine (one_any _ _ _ _ _ hs (by omega)).mono ?_; rintro e w' ⟨rfl, rfl⟩; rw [← HO.out])
        go_quiet (fail)
        go_wp2_with fail
        refine bodyPost_ret (v := .tuple #[.string a', .string t', .int .i64 e, .int .i64 0]) (by simp [results, Try.results52, go_sem]; try rfl) rfl ⟨by rw [HE.out]; rfl, below_drewN (by go_grown) _⟩
      · subst h5
        have hne : ((q : Int) == (p : Int)) = false := by simp; omega
        have hqp : ¬ q = p := by omega
        have HS2 : Hid (R = if Bk.endsB s (q : Int) = false ∧ (fl && Bk.flowB (bt s q)) = false then (ByteArray.empty, ByteArray.empty, q, 5)
          else if Bk.firstN s q s.size = q then (a', t', q, 0) else F f (Bk.firstN s q s.size) a' t' q) := Lib.hid (by rw [HS.out]; simp [hqp])
        clear HS hqp
        have hway : (q < s.size ∧ Bk.endsB s (q : Int) = false ∧ (fl = false ∨ (fl = true ∧ Bk.flowB (bt s q) = false)) ∧ Hid (R = (ByteArray.empty, ByteArray.empty, q, 5))) ∨
            (((Bk.endsB s (q : Int) = true) ∨ (q < s.size ∧ Bk.endsB s (q : Int) = false ∧ fl = true ∧ Bk.flowB (bt s q) = true)) ∧ Hid (R = if Bk.firstN s q s.size = q then (a', t', q, 0) else F f (Bk.firstN s q s.size) a' t' q)) := by
          cases hE : Bk.endsB s (q : Int) with
          | true => exact .inr ⟨.inl rfl, Lib.hid (by rw [HS2.out, hE]; simp)⟩
          | false =>
            have hql : q < s.size := by
              apply Nat.lt_of_not_le
              intro hh
              have := Bk.ends_out (s := s) (a := (q : Int)) (.inr (by omega))
              rw [hE] at this; exact Bool.noConfusion this
            cases hfl : fl with
            | false => exact .inl ⟨hql, rfl, .inl rfl, Lib.hid (by rw [HS2.out, hE, hfl]; simp)⟩
            | true =>
              cases hF2 : Bk.flowB (bt s q) with
              | false => exact .inl ⟨hql, rfl, .inr ⟨rfl, rfl⟩, Lib.hid (by rw [HS2.out, hE, hF2, hfl]; simp)⟩
              | true => exact .inr ⟨.inr ⟨hql, rfl, rfl, rfl⟩, Lib.hid (by rw [HS2.out, hE, hF2, hfl]; simp)⟩
        clear HS2
        rcases hway with ⟨hql, hE, hfl, HE⟩ | ⟨hw2, HE⟩
        · rcases hfl with hfl | ⟨hfl, hF2⟩ <;> (try (exact absurd (HFL.out.symm.trans hfl) (by decide))) <;> clear hfl
          all_goals
            go_wp2_with first
              | (go_at_call 76; refine (one_any _ _ _ _ _ hs (by omega)).mono ?_; rintro e w' ⟨rfl, rfl⟩; rw [← HO.out])
              | (go_at_call 33; refine (ends_any _ _ _).mono ?_; rintro e w' ⟨rfl, rfl⟩)
              | (go_at_call 26; refine (flow_any _ _).mono ?_; rintro e w' ⟨rfl, rfl⟩)
            refine bodyPost_ret (v := .tuple #[.string ByteArray.empty, .string ByteArray.empty, .int .i64 q, .int .i64 5]) (by simp [results, Try.results52, go_sem]; try rfl) rfl ⟨by rw [HE.out]; rfl, by go_grown⟩
        · have hq3 := Bk.firstN_ge s q s.size
          have hq4 := Bk.firstN_le (s := s) (k := q) (m := s.size) hq2
          rcases hw2 with hE | ⟨hql, hE, hfl, hF2⟩ <;> (try (exact absurd (HFL.out.symm.trans hfl) (by decide))) <;> (try clear hfl)
          all_goals
            go_wp2_with first
              | (go_at_call 76; refine (one_any _ _ _ _ _ hs (by omega)).mono ?_; rintro e w' ⟨rfl, rfl⟩; rw [← HO.out])
              | (go_at_call 33; refine (ends_any _ _ _).mono ?_; rintro e w' ⟨rfl, rfl⟩)
              | (go_at_call 26; refine (flow_any _ _).mono ?_; rintro e w' ⟨rfl, rfl⟩)
            go_loop [1] (fun i => ∃ m : Nat, q ≤ m ∧ m ≤ s.size ∧ i = .int .i64 m ∧ Hid (∀ j, q ≤ j → j < m → Bk.whiteB (bt s j) = true)) (fun i => s.size - (intOf i).toNat)
            case atStart => exact ⟨q, Nat.le_refl _, hq2, rfl, Lib.hid fun j _ _ => by omega⟩
            case round =>
              obtain ⟨m, hm1, hm2, rfl, HM⟩ := hrel
              by_cases hml : m < s.size
              · cases hwm : Bk.whiteB (bt s m) with
                | true =>
                  have HK : Hid (Bk.whiteB (bt s m) = true) := Lib.hid hwm
                  go_wp2_with (go_at_call 22; refine (white_any _ _).mono ?_; rintro e w' ⟨rfl, rfl⟩)
                  go_round
                  case rel =>
                    refine ⟨m + 1, by omega, by omega, by go_num, Lib.hid fun j hj hj' => ?_⟩
                    by_cases e : j = m
                    · subst e; exact HK.out
                    · exact HM.out j hj (by omega)
                  case measure => simp [intOf]; omega
                | false =>
                  have hm3 : Bk.firstN s q s.size = m := Bk.firstN_eq hm1 hm2 HM.out (fun _ => hwm)
                  by_cases hmq : m = q
                  · subst hmq
                    have HV : Hid (R = (a', t', m, 0)) := Lib.hid (by rw [HE.out, if_pos hm3])
                    clear hm3
                    go_wp2_with (go_at_call 22; refine (white_any _ _).mono ?_; rintro e w' ⟨rfl, rfl⟩)
                    go_quiet (fail)
                    go_wp2_with fail
                    refine bodyPost_ret (v := .tuple #[.string a', .string t', .int .i64 m, .int .i64 0]) (by simp [results, Try.results52, go_sem]; try rfl) rfl ⟨by rw [HV.out]; rfl, below_drewN (by go_grown) _⟩
                  · have HV : Hid (R = F f m a' t' q) := Lib.hid (by rw [HE.out, hm3, if_neg hmq])
                    have hmb : ((m : Int) == (q : Int)) = false := by simp; omega
                    clear hm3
                    go_wp2_with (go_at_call 22; refine (white_any _ _).mono ?_; rintro e w' ⟨rfl, rfl⟩)
                    go_roundw
                    case rel => exact ⟨f, m, q, a', t', .inr (by omega), by omega, by omega, rfl, rfl, rfl, HV⟩
                    case measure => simp [intOf]; omega
              · have hm3 : Bk.firstN s q s.size = m := Bk.firstN_eq hm1 hm2 HM.out (fun h => absurd h hml)
                by_cases hmq : m = q
                · subst hmq
                  have HV : Hid (R = (a', t', m, 0)) := Lib.hid (by rw [HE.out, if_pos hm3])
                  clear hm3
                  go_wp2_with (go_at_call 22; refine (white_any _ _).mono ?_; rintro e w' ⟨rfl, rfl⟩)
                  go_quiet (fail)
                  go_wp2_with fail
                  refine bodyPost_ret (v := .tuple #[.string a', .string t', .int .i64 m, .int .i64 0]) (by simp [results, Try.results52, go_sem]; try rfl) rfl ⟨by rw [HV.out]; rfl, below_drewN (by go_grown) _⟩
                · have HV : Hid (R = F f m a' t' q) := Lib.hid (by rw [HE.out, hm3, if_neg hmq])
                  have hmb : ((m : Int) == (q : Int)) = false := by simp; omega
                  clear hm3
                  go_wp2_with (go_at_call 22; refine (white_any _ _).mono ?_; rintro e w' ⟨rfl, rfl⟩)
                  go_roundw
                  case rel => exact ⟨f, m, q, a', t', .inr (by omega), by omega, by omega, rfl, rfl, rfl, HV⟩
                  case measure => simp [intOf]; omega
end Go.Proofs.Ytmmhpejnfkienaa
