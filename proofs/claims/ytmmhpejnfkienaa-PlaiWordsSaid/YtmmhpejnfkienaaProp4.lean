/- The reference's Props: contract. -/
import Derived.Test.YtmmhpejnfkienaaProp3
namespace Go.Proofs.Ytmmhpejnfkienaa
open Go Go.RowKit Go.PlainAid
set_option linter.unusedVariables false
set_option maxRecDepth 20000 in
set_option maxHeartbeats 6400000 in
theorem rread_nat (s : ByteArray) (p0 : Nat) (flow : Bool) (w : World) (hs : s.size ≤ 4611686018427387903) (hp0 : p0 ≤ 9223372036854775807) :
    Calls Try.prog 74 #[.string s, .int .i64 p0, .bool flow] w fun e w' => e = back4 (Bk.readP s flow (s.size + 1) p0 ByteArray.empty ByteArray.empty p0) ∧ w = w' := by
  have hb := get_bt s
  obtain ⟨R, hR⟩ : ∃ R, R = Bk.readP s flow (s.size + 1) p0 ByteArray.empty ByteArray.empty p0 := ⟨_, rfl⟩
  rw [← hR]
  have HR := Lib.hid hR
  clear hR
  obtain ⟨fl, hfl0⟩ : ∃ fl, fl = flow := ⟨_, rfl⟩
  obtain ⟨F, hF⟩ : ∃ F, F = Bk.readP s fl := ⟨_, rfl⟩
  have HRF : Hid (R = F (s.size + 1) p0 ByteArray.empty ByteArray.empty p0) := Lib.hid (by rw [hF, hfl0]; exact HR.out)
  have HF := Lib.hid hF
  have HFL := Lib.hid hfl0
  clear hF HR hfl0
  cases flow
  all_goals
    go_enter Try.func74, Try.ntmps74
    go_wp2_with fail
    go_loop [10, 11, 12, 13] (fun i10 i11 i12 i13 => ∃ (f p e : Nat) (a t : ByteArray), (p = p0 ∨ p ≤ s.size) ∧ s.size < f + p ∧ 1 ≤ f ∧ i10 = .string a ∧ i11 = .string t ∧ i12 = .int .i64 e ∧ i13 = .int .i64 p ∧ Hid (R = F f p a t e)) (fun _ _ _ i => s.size - (intOf i).toNat)
    case atStart => exact ⟨s.size + 1, p0, p0, ByteArray.empty, ByteArray.empty, .inl rfl, by omega, by omega, rfl, rfl, rfl, rfl, HRF⟩
    case round =>
      obtain ⟨f, p, e, a, t, hp, hf, hf1, rfl, rfl, rfl, rfl, H0⟩ := hrel
      obtain ⟨f, rfl⟩ : ∃ g, f = g + 1 := ⟨f - 1, by omega⟩
      have E1 : Hid ((p : Int) + 1 = ((p + 1 : Nat) : Int)) := Lib.hid (by omega)
      rcases Bk.readP_step s fl f p a t e with ⟨hw, H⟩ | ⟨hlt, b38, h0, H⟩ | ⟨hlt, b38, h0, ha, H⟩ | ⟨hlt, b38, h0, ha, H⟩ | ⟨hlt, b38, b33, ht, H⟩ | ⟨hlt, b38, b33, ht, H⟩
      · have HE : Hid (R = (a, t, e, 0)) := Lib.hid (by rw [H0.out, HF.out]; exact H.out)
        rcases hw with hw | ⟨hlt, b38, b33⟩
        all_goals
          go_wp2_with fail
          refine bodyPost_ret (v := .tuple #[.string a, .string t, .int .i64 e, .int .i64 0]) (by simp [results, Try.results74, go_sem]; try rfl) rfl ⟨by rw [HE.out]; rfl, rfl⟩
      · have HE : Hid (R = (ByteArray.empty, ByteArray.empty, p, 5)) := Lib.hid (by rw [H0.out, HF.out]; exact H.out)
        have H0n := Lib.hid h0
        clear h0
        go_wp2_with (go_at_call 36; rw [E1.out]; refine (rname_any s _ _ (by omega) (by omega)).mono ?_; rintro e w' ⟨rfl, rfl⟩; rw [H0n.out])
        refine bodyPost_ret (v := .tuple #[.string ByteArray.empty, .string ByteArray.empty, .int .i64 p, .int .i64 5]) (by simp [results, Try.results74, go_sem]; try rfl) rfl ⟨by rw [HE.out]; rfl, rfl⟩
      · have HE : Hid (R = (ByteArray.empty, ByteArray.empty, p, 5)) := Lib.hid (by rw [H0.out, HF.out]; exact H.out)
        obtain ⟨n, hn⟩ : ∃ n, n = Bk.nameN s ((p + 1 : Nat) : Int) := ⟨_, rfl⟩
        rw [← hn] at h0
        have HNM := Lib.hid hn
        clear hn
        have hnb : ((n : Int) == 0) = false := by simp; omega
        go_wp2_with (go_at_call 36; rw [E1.out]; refine (rname_any s _ _ (by omega) (by omega)).mono ?_; rintro e w' ⟨rfl, rfl⟩; rw [← HNM.out])
        refine bodyPost_ret (v := .tuple #[.string ByteArray.empty, .string ByteArray.empty, .int .i64 p, .int .i64 5]) (by simp [results, Try.results74, go_sem]; try rfl) rfl ⟨by rw [HE.out]; rfl, rfl⟩
      · have hnl := Bk.nameN_le (s := s) (k := p + 1) (by omega)
        have H := Lib.hid (H0.out.trans ((congrFun (congrFun (congrFun (congrFun (congrFun HF.out (f + 1)) p) a) t) e).trans H.out))
        obtain ⟨n, hn⟩ : ∃ n, n = Bk.nameN s ((p + 1 : Nat) : Int) := ⟨_, rfl⟩
        rw [← hn] at h0 hnl H
        have HNM := Lib.hid hn
        clear hn
        have hnb : ((n : Int) == 0) = false := by simp; omega
        obtain ⟨q, hq⟩ : ∃ q, q = p + 1 + n := ⟨_, rfl⟩
        rw [← hq] at H
        have hq2 : q ≤ s.size := by omega
        have hpq : p < q := by omega
        have EQ : Hid ((p : Int) + 1 + (n : Int) = (q : Int)) := Lib.hid (by omega)
        have HN := Lib.hid (Bk.heldN_nat hq2)
        have HQ : Hid (p + 1 + n = q) := Lib.hid hq.symm
        rw [← HF.out] at H
        clear hq
        rcases Bk.tail_way H.out with ⟨hql, hE, hfl, HE⟩ | ⟨hw2, HE⟩
        · rcases hfl with hfl | ⟨hfl, hF2⟩ <;> (try (exact absurd (HFL.out.symm.trans hfl) (by decide))) <;> clear hfl
          all_goals
            go_wp2_with first
              | (go_at_call 36; rw [E1.out]; refine (rname_any s _ _ (by omega) (by omega)).mono ?_; rintro e w' ⟨rfl, rfl⟩; rw [← HNM.out])
              | (go_at_call 34; (try rw [EQ.out]); refine (rends_any s q _).mono ?_; rintro e w' ⟨rfl, rfl⟩)
              | (go_at_call 27; refine (rflow_any _ _).mono ?_; rintro e w' ⟨rfl, rfl⟩)
              | (go_at_call 40; refine (rrow_any s q _ hs).mono ?_; rintro e w' ⟨rfl, rfl⟩; rw [HN.out])
              | (go_at_call 73; refine (rfirst_any s q _ _ hs ht3).mono ?_; rintro e w' ⟨rfl, rfl⟩; rw [HFR.out])
            refine bodyPost_ret (v := .tuple #[.string ByteArray.empty, .string ByteArray.empty, .int .i64 q, .int .i64 5]) (by simp [results, Try.results74, go_sem]; try rfl) rfl ⟨by rw [HE.out]; rfl, rfl⟩
        · have hq3 := Bk.firstN_ge s q s.size
          have hq4 := Bk.firstN_le (s := s) (k := q) (m := s.size) hq2
          have HFR := Lib.hid (Bk.first_row hq2)
          have ht3 := Bk.toN_le hq2
          rcases hw2 with hE | ⟨hql, hE, hfl, hF2⟩ <;> (try (exact absurd (HFL.out.symm.trans hfl) (by decide))) <;> (try clear hfl)
          all_goals
            by_cases hmq : Bk.firstN s q s.size = q
            · have HV : Hid (R = (s.extract (p + 1) (p + 1 + n), t, q, 0)) := Lib.hid (by rw [HE.out, if_pos hmq, HQ.out])
              have hmb : ((Bk.firstN s q s.size : Int) == (q : Int)) = true := by rw [hmq]; simp
              clear hmq
              go_wp2_with first
                | (go_at_call 36; rw [E1.out]; refine (rname_any s _ _ (by omega) (by omega)).mono ?_; rintro e w' ⟨rfl, rfl⟩; rw [← HNM.out])
                | (go_at_call 34; (try rw [EQ.out]); refine (rends_any s q _).mono ?_; rintro e w' ⟨rfl, rfl⟩)
                | (go_at_call 27; refine (rflow_any _ _).mono ?_; rintro e w' ⟨rfl, rfl⟩)
                | (go_at_call 40; refine (rrow_any s q _ hs).mono ?_; rintro e w' ⟨rfl, rfl⟩; rw [HN.out])
                | (go_at_call 73; refine (rfirst_any s q _ _ hs ht3).mono ?_; rintro e w' ⟨rfl, rfl⟩; rw [HFR.out])
              refine bodyPost_ret (v := .tuple #[.string (s.extract (p + 1) (p + 1 + n)), .string (t), .int .i64 q, .int .i64 0]) (by simp [results, Try.results74, go_sem]; try rfl) rfl ⟨by rw [HV.out]; rfl, rfl⟩
            · have HV : Hid (R = F f (Bk.firstN s q s.size) (s.extract (p + 1) (p + 1 + n)) (t) q) := Lib.hid (by rw [HE.out, if_neg hmq, HQ.out])
              have hmb : ((Bk.firstN s q s.size : Int) == (q : Int)) = false := by simp; omega
              clear hmq
              go_wp2_with first
                | (go_at_call 36; rw [E1.out]; refine (rname_any s _ _ (by omega) (by omega)).mono ?_; rintro e w' ⟨rfl, rfl⟩; rw [← HNM.out])
                | (go_at_call 34; (try rw [EQ.out]); refine (rends_any s q _).mono ?_; rintro e w' ⟨rfl, rfl⟩)
                | (go_at_call 27; refine (rflow_any _ _).mono ?_; rintro e w' ⟨rfl, rfl⟩)
                | (go_at_call 40; refine (rrow_any s q _ hs).mono ?_; rintro e w' ⟨rfl, rfl⟩; rw [HN.out])
                | (go_at_call 73; refine (rfirst_any s q _ _ hs ht3).mono ?_; rintro e w' ⟨rfl, rfl⟩; rw [HFR.out])
              go_round
              case rel => exact ⟨f, Bk.firstN s q s.size, q, s.extract (p + 1) (p + 1 + n), t, .inr (by omega), by omega, by omega, rfl, rfl, rfl, rfl, HV⟩
              case measure => simp [intOf]; omega
      · have HE : Hid (R = (ByteArray.empty, ByteArray.empty, p, 5)) := Lib.hid (by rw [H0.out, HF.out]; exact H.out)
        go_wp2_with fail
        refine bodyPost_ret (v := .tuple #[.string ByteArray.empty, .string ByteArray.empty, .int .i64 p, .int .i64 5]) (by simp [results, Try.results74, go_sem]; try rfl) rfl ⟨by rw [HE.out]; rfl, rfl⟩
      · have hsz := Bk.size_le hlt
        have H33 : Hid (bt s p = 33) := Lib.hid (beq_iff_eq.1 b33)
        have H := Lib.hid (H0.out.trans ((congrFun (congrFun (congrFun (congrFun (congrFun HF.out (f + 1)) p) a) t) e).trans H.out))
        obtain ⟨q, hq⟩ : ∃ q, q = p + Bk.sizeN s p := ⟨_, rfl⟩
        rw [← hq] at H
        have hq2 : q ≤ s.size := by omega
        have hpq : p < q := by omega
        have EQ : Hid ((p : Int) + (Bk.sizeN s p : Nat) = (q : Int)) := Lib.hid (by omega)
        have HN := Lib.hid (Bk.heldN_nat hq2)
        have HQ : Hid (p + Bk.sizeN s p = q) := Lib.hid hq.symm
        rw [← HF.out] at H
        clear hq
        rcases Bk.tail_way H.out with ⟨hql, hE, hfl, HE⟩ | ⟨hw2, HE⟩
        · rcases hfl with hfl | ⟨hfl, hF2⟩ <;> (try (exact absurd (HFL.out.symm.trans hfl) (by decide))) <;> clear hfl
          all_goals
            go_wp2_with first
              | (go_at_call 95; refine (rsize_any s p _ hs hlt H33.out).mono ?_; rintro e w' ⟨rfl, rfl⟩)
              | (go_at_call 34; (try rw [EQ.out]); refine (rends_any s q _).mono ?_; rintro e w' ⟨rfl, rfl⟩)
              | (go_at_call 27; refine (rflow_any _ _).mono ?_; rintro e w' ⟨rfl, rfl⟩)
              | (go_at_call 40; refine (rrow_any s q _ hs).mono ?_; rintro e w' ⟨rfl, rfl⟩; rw [HN.out])
              | (go_at_call 73; refine (rfirst_any s q _ _ hs ht3).mono ?_; rintro e w' ⟨rfl, rfl⟩; rw [HFR.out])
            refine bodyPost_ret (v := .tuple #[.string ByteArray.empty, .string ByteArray.empty, .int .i64 q, .int .i64 5]) (by simp [results, Try.results74, go_sem]; try rfl) rfl ⟨by rw [HE.out]; rfl, rfl⟩
        · have hq3 := Bk.firstN_ge s q s.size
          have hq4 := Bk.firstN_le (s := s) (k := q) (m := s.size) hq2
          have HFR := Lib.hid (Bk.first_row hq2)
          have ht3 := Bk.toN_le hq2
          rcases hw2 with hE | ⟨hql, hE, hfl, hF2⟩ <;> (try (exact absurd (HFL.out.symm.trans hfl) (by decide))) <;> (try clear hfl)
          all_goals
            by_cases hmq : Bk.firstN s q s.size = q
            · have HV : Hid (R = (a, s.extract p (p + Bk.sizeN s p), q, 0)) := Lib.hid (by rw [HE.out, if_pos hmq, HQ.out])
              have hmb : ((Bk.firstN s q s.size : Int) == (q : Int)) = true := by rw [hmq]; simp
              clear hmq
              go_wp2_with first
                | (go_at_call 95; refine (rsize_any s p _ hs hlt H33.out).mono ?_; rintro e w' ⟨rfl, rfl⟩)
                | (go_at_call 34; (try rw [EQ.out]); refine (rends_any s q _).mono ?_; rintro e w' ⟨rfl, rfl⟩)
                | (go_at_call 27; refine (rflow_any _ _).mono ?_; rintro e w' ⟨rfl, rfl⟩)
                | (go_at_call 40; refine (rrow_any s q _ hs).mono ?_; rintro e w' ⟨rfl, rfl⟩; rw [HN.out])
                | (go_at_call 73; refine (rfirst_any s q _ _ hs ht3).mono ?_; rintro e w' ⟨rfl, rfl⟩; rw [HFR.out])
              refine bodyPost_ret (v := .tuple #[.string (a), .string (s.extract p (p + Bk.sizeN s p)), .int .i64 q, .int .i64 0]) (by simp [results, Try.results74, go_sem]; try rfl) rfl ⟨by rw [HV.out]; rfl, rfl⟩
            · have HV : Hid (R = F f (Bk.firstN s q s.size) (a) (s.extract p (p + Bk.sizeN s p)) q) := Lib.hid (by rw [HE.out, if_neg hmq, HQ.out])
              have hmb : ((Bk.firstN s q s.size : Int) == (q : Int)) = false := by simp; omega
              clear hmq
              go_wp2_with first
                | (go_at_call 95; refine (rsize_any s p _ hs hlt H33.out).mono ?_; rintro e w' ⟨rfl, rfl⟩)
                | (go_at_call 34; (try rw [EQ.out]); refine (rends_any s q _).mono ?_; rintro e w' ⟨rfl, rfl⟩)
                | (go_at_call 27; refine (rflow_any _ _).mono ?_; rintro e w' ⟨rfl, rfl⟩)
                | (go_at_call 40; refine (rrow_any s q _ hs).mono ?_; rintro e w' ⟨rfl, rfl⟩; rw [HN.out])
                | (go_at_call 73; refine (rfirst_any s q _ _ hs ht3).mono ?_; rintro e w' ⟨rfl, rfl⟩; rw [HFR.out])
              go_round
              case rel => exact ⟨f, Bk.firstN s q s.size, q, a, s.extract p (p + Bk.sizeN s p), .inr (by omega), by omega, by omega, rfl, rfl, rfl, rfl, HV⟩
              case measure => simp [intOf]; omega
end Go.Proofs.Ytmmhpejnfkienaa
