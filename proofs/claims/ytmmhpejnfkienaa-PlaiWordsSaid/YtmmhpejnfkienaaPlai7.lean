/- The reference's Plain: contract. -/
import Derived.Test.YtmmhpejnfkienaaPlai5
import Derived.Test.YtmmhpejnfkienaaPlai6
import Derived.Test.YtmmhpejnfkienaaFold3
namespace Go.Proofs.Ytmmhpejnfkienaa
open Go Go.RowKit Go.PlainAid
set_option linter.unusedVariables false
namespace Bk
theorem readS_done {s : ByteArray} {k : Nat} {n : Int} {fl : Bool} {e : Nat} {l : List ByteArray} {o : Bool} (hB : beginsB s k fl = true)
    (h : Rd s n fl (readL s n fl (s.size + 1) (partN s k fl) [s.extract k (partN s k fl)] true) e l o) (hn : (nextS s e n fl).2.2 = false) (hc : o = true ∨ fl = true ∨ colonB s e = false) :
    readS s k n fl = (foldFlow l, e, o, 0) := by
  rw [readS, if_pos hB, rd_end h hn]
  show (if (!fl && !o && colonB s e) = true then _ else _) = _
  rw [if_neg]
  rcases hc with rfl | rfl | hc
  · simp
  · simp
  · rw [hc]; simp
theorem readS_colon {s : ByteArray} {k : Nat} {n : Int} {e : Nat} {l : List ByteArray} (hB : beginsB s k false = true)
    (h : Rd s n false (readL s n false (s.size + 1) (partN s k false) [s.extract k (partN s k false)] true) e l false) (hc : colonB s e = true) :
    readS s k n false = (ByteArray.empty, firstN s e s.size, false, 5) := by
  have hes : e ≤ s.size := h.2.2.1
  have hn : (nextS s e n false).2.2 = false := by
    refine next_no ?_
    rw [firstN_row hes]
    have h2 := colon_row hes (rfl : toN s e = toN s e)
    rw [hc] at h2
    have h3 := h2.symm
    simp only [Bool.and_eq_true, decide_eq_true_eq] at h3
    exact h3.1.1
  rw [readS, if_pos hB, rd_end h hn]
  show (if (!false && !false && colonB s e) = true then _ else _) = _
  rw [hc]; rfl
theorem rep_cons {l : List ByteArray} {j : Nat} : l ++ List.replicate j ByteArray.empty ++ [⟨#[]⟩] = l ++ List.replicate (j + 1) ByteArray.empty := by
  rw [List.replicate_succ', List.append_assoc]; rfl
end Bk
set_option maxRecDepth 20000 in
set_option maxHeartbeats 12800000 in
theorem plain84_any (s : ByteArray) (k : Nat) (n : Int) (fl : Bool) (w : World) (hs : s.size ≤ 900000) (hk : k ≤ s.size) :
    Calls Try.prog 84 #[.string s, .int .i64 k, .int .i64 n, .bool fl] w fun e w' => e = .returned (.tuple #[.string (Bk.readS s k n fl).1, .int .i64 ((Bk.readS s k n fl).2.1 : Nat), .bool (Bk.readS s k n fl).2.2.1, .int .i64 (Bk.readS s k n fl).2.2.2]) ∧ Below w.heap.size w w' := by
  have hb := get_bt s
  have h1 := Bk.partN_ge s k fl
  have h2 := Bk.partN_le s k fl
  have h3 := Bk.toN_le hk
  cases hB : Bk.beginsB s k fl with
  | false =>
    have HE : Hid (Bk.readS s k n fl = (ByteArray.empty, k, false, 5)) := Lib.hid (by rw [Bk.readS, if_neg (by rw [hB]; decide)])
    have HB := Lib.hid hB
    go_enter Try.func84, Try.ntmps84
    go_wp2_with (go_at_call 85; refine (rbegins_any s _ fl _ (by omega) (by omega)).mono ?_; rintro e w' ⟨rfl, rfl⟩; rw [Int.toNat_natCast, HB.out])
    refine bodyPost_ret (v := .tuple #[.string ByteArray.empty, .int .i64 k, .bool false, .int .i64 5]) (by simp [results, Try.results84, go_sem]; try rfl) rfl ⟨by rw [HE.out], Below.refl _ _⟩
  | true =>
    have HR := Lib.hid (Bk.rd_start (n := n) (fl := fl) hk)
    have HD := Lib.hid (fun e l o => Bk.readS_done (n := n) (e := e) (l := l) (o := o) hB)
    have HCo : Hid (fl = false → ∀ (e : Nat) (l : List ByteArray), Bk.Rd s n fl (Bk.readL s n fl (s.size + 1) (Bk.partN s k fl) [s.extract k (Bk.partN s k fl)] true) e l false → Bk.colonB s e = true → Bk.readS s k n fl = (ByteArray.empty, Bk.firstN s e s.size, false, 5)) :=
      Lib.hid (fun h e l h2 h3 => by subst h; exact Bk.readS_colon hB h2 h3)
    obtain ⟨R, hR⟩ : ∃ R, R = Bk.readL s n fl (s.size + 1) (Bk.partN s k fl) [s.extract k (Bk.partN s k fl)] true := ⟨_, rfl⟩
    rw [← hR] at HR HD HCo
    clear hR
    have HB := Lib.hid hB
    clear hB
    obtain ⟨e0, he0⟩ : ∃ e0, e0 = Bk.partN s k fl := ⟨_, rfl⟩
    rw [← he0] at HR h1 h2
    have HE0 := Lib.hid he0
    clear he0
    go_enter Try.func84, Try.ntmps84
    go_wp2_with first
      | (go_at_call 85; refine (rbegins_any s _ fl _ (by omega) (by omega)).mono ?_; rintro e w' ⟨rfl, rfl⟩; rw [Int.toNat_natCast, HB.out])
      | (go_at_call 86; refine (rpart_any s _ fl _ (by omega) (by omega)).mono ?_; rintro e w1 ⟨rfl, rfl⟩; rw [Int.toNat_natCast, ← HE0.out])
    have K2 := Lib.hid ((Below.refl w.heap.size w).alloc (Nat.le_refl _) (.cells #[.string (s.extract k e0)] 9))
    have O1 := Lib.hid (own_lit w.heap.size (s.extract k e0) w (Nat.le_refl _))
    go_loopw [12, 13, 14] (fun ev v ov wr => ∃ (e : Nat) (l : List ByteArray) (o : Bool), ev = .int .i64 e ∧ ov = .bool o ∧ e ≤ s.size ∧ Hid (Bk.Rd s n fl R e l o) ∧ Hid (o = true ∨ fl = true ∨ Bk.colonB s e = false) ∧ Hid (Own w.heap.size v l wr) ∧ Hid (Below w.heap.size w wr)) (fun ev _ _ _ => s.size - (intOf ev).toNat)
    case atStart => exact ⟨e0, _, true, rfl, rfl, by omega, HR, Lib.hid (.inl rfl), O1, K2⟩
    case round =>
      obtain ⟨e, l, o, rfl, rfl, hes, H, HC, HO, HW⟩ := hrel
      have HK := Lib.hid (Bk.heldN_nat (s := s) (k := e) hes)
      have hm := Bk.toN_le hes
      have hm0 := Bk.toN_ge s e
      have hex : (Bk.nextS s e n fl).2.2 = false → Hid (Bk.readS s k n fl = (Bk.foldFlow l, e, o, 0)) := fun h => Lib.hid (HD.out e l o H.out h HC.out)
      have HX := Lib.hid hex
      clear hex
      have hz : Bk.sumA l ≤ e + 1 := H.out.2.1
      have hlz := Bk.len_sumA l
      have hll : l.length ≤ 900001 := by omega
      have HZ : Hid (Bk.sumZ l l.length ≤ 140737488355328) := Lib.hid (by have h : Bk.sumZ l l.length = Bk.sumA l := rfl; omega)
      clear hz hlz
      obtain ⟨m, hmq⟩ : ∃ m, m = Bk.toN s e := ⟨_, rfl⟩
      rw [← hmq] at hm hm0
      have HM := Lib.hid hmq
      clear hmq
      have HR1 : Hid (Bk.firstN s e s.size = Bk.firstN s e m) := Lib.hid (by rw [HM.out]; exact Bk.firstN_row hes)
      by_cases hf : Bk.firstN s e m < m
      · have HF := HX.out (Bk.next_no (by rw [HR1.out, ← HM.out]; exact hf))
        obtain ⟨ad, cp, hv, hst, hcap⟩ := own_strs HO.out (by omega)
        subst hv
        have HST := Lib.hid hst
        clear hst hcap
        go_wp2_with first
          | (go_at_call 40; refine (rrow_any s _ _ (by omega)).mono ?_; rintro e1 w2 ⟨rfl, rfl⟩; rw [HK.out, ← HM.out])
          | (go_at_call 73; refine (rfirst_any s e m _ (by omega) hm).mono ?_; rintro e1 w2 ⟨rfl, rfl⟩)
          | (go_at_call 56; refine (rflow56_any _ _ _ l _ HST.out HZ.out).mono ?_; rintro e1 w2 ⟨rfl, hg⟩; replace HW := Lib.hid (HW.out.trans (hg.mono HW.out.size)); clear hg)
        refine bodyPost_ret (v := .tuple #[.string (Bk.foldFlow l), .int .i64 e, .bool o, .int .i64 0]) (by simp [results, Try.results84, go_sem]; try rfl) rfl ⟨by rw [HF.out], HW.out⟩
      · have HT : Hid (Bk.nextS s e n fl = Bk.nextT s n fl (Bk.skipN s (s.size + 1) m 0).1 (Bk.skipN s (s.size + 1) m 0).2) := Lib.hid (by rw [HM.out]; exact Bk.next_T (by rw [HR1.out, ← HM.out]; exact hf))
        by_cases hms : m < s.size
        · have hd1 : decide (Bk.firstN s e m < m) = false := decide_eq_false hf
          have hd2 : decide (s.size ≤ m) = false := decide_eq_false (by omega)
          go_wp2_with first
            | (go_at_call 40; refine (rrow_any s _ _ (by omega)).mono ?_; rintro e1 w2 ⟨rfl, rfl⟩; rw [HK.out, ← HM.out])
            | (go_at_call 73; refine (rfirst_any s e m _ (by omega) hm).mono ?_; rintro e1 w2 ⟨rfl, rfl⟩)
          obtain ⟨wo, hwo⟩ : ∃ wo : World, wo = wr := ⟨_, rfl⟩
          subst hwo
          go_loop [16, 17, 18] (fun tv bl fr => ∃ t b f : Nat, t ≤ s.size ∧ tv = .int .i64 t ∧ bl = .int .i64 b ∧ fr = .int .i64 ((t + 1 : Nat) : Int) ∧ b ≤ t + 1 ∧ e + b ≤ t ∧ Hid (Bk.skipN s (s.size + 1) m 0 = Bk.skipN s f t b ∧ s.size - t < f)) (fun tv _ _ => s.size - (intOf tv).toNat)
          case atStart => exact ⟨m, 0, s.size + 1, hm, rfl, rfl, by go_num, by omega, by omega, Lib.hid ⟨rfl, by omega⟩⟩
          case round =>
            obtain ⟨t, b, f, hts, rfl, rfl, rfl, hbt, heb, HS⟩ := hrel
            by_cases hin : t + 1 < s.size
            · have HN : Hid (Bk.heldN s ((t : Int) + 1) = t + 1) := Lib.hid (Bk.heldN_nat (s := s) (k := t + 1) (by omega))
              have hg2 := Bk.toN_ge s (t + 1)
              have hm2 := Bk.toN_le (s := s) (k := t + 1) (by omega)
              obtain ⟨m2, hm2q⟩ : ∃ m2, m2 = Bk.toN s (t + 1) := ⟨_, rfl⟩
              rw [← hm2q] at hg2 hm2
              have HM2 := Lib.hid hm2q
              clear hm2q
              obtain ⟨K, hK⟩ : ∃ K, K = Bk.kindN s (t + 1) := ⟨_, rfl⟩
              have HKK := Lib.hid hK
              clear hK
              by_cases hK1 : K = 1
              · have HY := Lib.hid (Bk.skipN_yes (b := b) (by omega : t < s.size) (by rw [← HKK.out]; exact hK1) HS.out.2)
                subst hK1
                go_wp2_with first
                  | (go_at_call 46; refine (rkind_any s _ _ (by omega)).mono ?_; rintro e1 w2 ⟨rfl, rfl⟩; rw [HN.out, ← HKK.out])
                  | (go_at_call 40; refine (rrow_any s _ _ (by omega)).mono ?_; rintro e1 w2 ⟨rfl, rfl⟩; rw [HN.out, ← HM2.out])
                go_round
                case rel =>
                  obtain ⟨f', h1, h2⟩ := HY.out
                  rw [← HM2.out] at h1 h2
                  exact ⟨m2, b + 1, f', hm2, rfl, by go_num, by go_num, by omega, by omega, Lib.hid ⟨HS.out.1.trans h1, h2⟩⟩
                case measure => simp [intOf]; omega
              · have HNo : Hid (Bk.nextS s e n fl = Bk.nextT s n fl t b) := Lib.hid (by
                  rw [HT.out, HS.out.1, Bk.skipN_no (f := f) (b := b) (show ¬ (t < s.size ∧ Bk.kindN s (t + 1) = 1) from fun h => hK1 (HKK.out.trans h.2))])
                have b1 : (K == 1) = false := by simpa using hK1
                clear hK1
                obtain ⟨p, hp⟩ : ∃ p, p = Bk.firstN s (t + 1) m2 := ⟨_, rfl⟩
                have hp1 := Bk.firstN_ge s (t + 1) m2
                have hp2 := Bk.firstN_le (s := s) (k := t + 1) (m := m2) hg2
                have hp3 : Bk.firstN s (t + 1) s.size = Bk.firstN s (t + 1) m2 := by rw [HM2.out]; exact Bk.firstN_row (by omega)
                rw [← hp] at hp1 hp2 hp3
                have HP := Lib.hid hp
                have HP3 := Lib.hid hp3
                clear hp hp3
                obtain ⟨q, hq⟩ : ∃ q, q = Bk.partN s p fl := ⟨_, rfl⟩
                have hq1 := Bk.partN_ge s p fl
                have hq2 := Bk.partN_le s p fl
                have hq3 : Bk.toN s p = m2 := by rw [HM2.out]; exact Bk.toN_from hp1 (by rw [← HM2.out]; exact hp2) (by omega)
                rw [← hq] at hq1 hq2
                rw [hq3] at hq2
                have HQ := Lib.hid hq
                have HQ3 := Lib.hid hq3
                clear hq hq3
                by_cases hK5 : K = 5
                · have b5 : (K != 5) = false := by simp [hK5]
                  by_cases hn : (Bk.inN s (t + 1) : Int) ≤ n
                  · have HF := HX.out (by rw [HNo.out]; exact Bk.nextT_in hn)
                    subst hK5
                    obtain ⟨ad, cp, hv, hst, hcap⟩ := own_strs HO.out (by omega)
                    subst hv
                    have HST := Lib.hid hst
                    clear hst hcap
                    go_wp2_with first
                      | (go_at_call 46; refine (rkind_any s _ _ (by omega)).mono ?_; rintro e1 w2 ⟨rfl, rfl⟩; rw [HN.out, ← HKK.out])
                      | (go_at_call 42; refine (rin_any s _ _ (by omega)).mono ?_; rintro e1 w2 ⟨rfl, rfl⟩; rw [HN.out])
                      | (go_at_call 40; refine (rrow_any s _ _ (by omega)).mono ?_; rintro e1 w2 ⟨rfl, rfl⟩; rw [HN.out, ← HM2.out])
                      | (go_at_call 73; refine (rfirst_any s (t + 1) m2 _ (by omega) hm2).mono ?_; rintro e1 w2 ⟨rfl, rfl⟩; rw [← HP.out])
                      | (go_at_call 86; refine (rpart_any s _ fl _ (by omega) (by omega)).mono ?_; rintro e1 w2 ⟨rfl, rfl⟩; rw [Int.toNat_natCast, ← HQ.out])
                      | (go_at_call 56; refine (rflow56_any _ _ _ l _ HST.out HZ.out).mono ?_; rintro e1 w2 ⟨rfl, hg⟩; replace HW := Lib.hid (HW.out.trans (hg.mono HW.out.size)); clear hg)
                    refine bodyPost_ret (v := .tuple #[.string (Bk.foldFlow l), .int .i64 e, .bool o, .int .i64 0]) (by simp [results, Try.results84, go_sem]; try rfl) rfl ⟨by rw [HF.out], HW.out⟩
                  · by_cases hqp : q = p
                    · have HF := HX.out (by rw [HNo.out]; exact Bk.nextT_part (by rw [HP3.out, ← HQ.out]; exact hqp))
                      have bq : ((q : Int) == (p : Int)) = true := by simp [hqp]
                      subst hK5
                      clear hqp
                      obtain ⟨ad, cp, hv, hst, hcap⟩ := own_strs HO.out (by omega)
                      subst hv
                      have HST := Lib.hid hst
                      clear hst hcap
                      go_wp2_with first
                        | (go_at_call 46; refine (rkind_any s _ _ (by omega)).mono ?_; rintro e1 w2 ⟨rfl, rfl⟩; rw [HN.out, ← HKK.out])
                        | (go_at_call 42; refine (rin_any s _ _ (by omega)).mono ?_; rintro e1 w2 ⟨rfl, rfl⟩; rw [HN.out])
                        | (go_at_call 40; refine (rrow_any s _ _ (by omega)).mono ?_; rintro e1 w2 ⟨rfl, rfl⟩; rw [HN.out, ← HM2.out])
                        | (go_at_call 73; refine (rfirst_any s (t + 1) m2 _ (by omega) hm2).mono ?_; rintro e1 w2 ⟨rfl, rfl⟩; rw [← HP.out])
                        | (go_at_call 86; refine (rpart_any s _ fl _ (by omega) (by omega)).mono ?_; rintro e1 w2 ⟨rfl, rfl⟩; rw [Int.toNat_natCast, ← HQ.out])
                        | (go_at_call 56; refine (rflow56_any _ _ _ l _ HST.out HZ.out).mono ?_; rintro e1 w2 ⟨rfl, hg⟩; replace HW := Lib.hid (HW.out.trans (hg.mono HW.out.size)); clear hg)
                      refine bodyPost_ret (v := .tuple #[.string (Bk.foldFlow l), .int .i64 e, .bool o, .int .i64 0]) (by simp [results, Try.results84, go_sem]; try rfl) rfl ⟨by rw [HF.out], HW.out⟩
                    · have bq : ((q : Int) == (p : Int)) = false := by simp; omega
                      have hnx := Bk.nextT_yes (b := b) (by omega : t < s.size) (by rw [← HKK.out]; exact hK5) (by omega : n < (Bk.inN s (t + 1) : Int)) (by rw [HP3.out, ← HQ.out]; exact hqp)
                      rw [← HNo.out, HP3.out] at hnx
                      have HNX := Lib.hid hnx
                      clear hnx
                      have hrd := Bk.rd_next H.out (by rw [HNX.out])
                      rw [HNX.out] at hrd
                      simp only at hrd
                      rw [← HQ.out] at hrd
                      have HR2 := Lib.hid hrd
                      clear hrd
                      subst hK5
                      have hd3 : decide ((s.size : Int) ≤ (t : Int) + 1) = false := decide_eq_false (by omega)
                      have hd4 : decide ((Bk.inN s (t + 1) : Int) ≤ n) = false := decide_eq_false (by omega)
                      have hll2 : l.length + b + 1 ≤ 1000000 := by
                        have h1 := HR2.out.2.1
                        have h2 := Bk.len_sumA (l ++ List.replicate b ByteArray.empty ++ [s.extract p q])
                        rw [List.length_append, List.length_append, List.length_replicate, List.length_singleton] at h2
                        omega
                      go_wp2_with first
                        | (go_at_call 46; refine (rkind_any s _ _ (by omega)).mono ?_; rintro e1 w2 ⟨rfl, rfl⟩; rw [HN.out, ← HKK.out])
                        | (go_at_call 42; refine (rin_any s _ _ (by omega)).mono ?_; rintro e1 w2 ⟨rfl, rfl⟩; rw [HN.out])
                        | (go_at_call 40; refine (rrow_any s _ _ (by omega)).mono ?_; rintro e1 w2 ⟨rfl, rfl⟩; rw [HN.out, ← HM2.out])
                        | (go_at_call 73; refine (rfirst_any s (t + 1) m2 _ (by omega) hm2).mono ?_; rintro e1 w2 ⟨rfl, rfl⟩; rw [← HP.out])
                        | (go_at_call 86; refine (rpart_any s _ fl _ (by omega) (by omega)).mono ?_; rintro e1 w2 ⟨rfl, rfl⟩; rw [Int.toNat_natCast, ← HQ.out])
                      have htq : Bk.toN s q = m2 := (Bk.toN_from hq1 (by rw [HQ3.out]; exact hq2) (by omega)).trans HQ3.out
                      have HCR := Lib.hid (Bk.colon_row (by omega : q ≤ s.size) htq)
                      have hfr : Bk.firstN s q s.size = Bk.firstN s q m2 := by rw [← htq]; exact Bk.firstN_row (by omega)
                      have HFR := Lib.hid hfr
                      clear hfr htq
                      have hc2 := Bk.firstN_le (s := s) (k := q) (m := m2) hq2
                      go_loopw [13, 21] (fun v i w2 => ∃ j : Nat, j ≤ b ∧ i = .int .i64 j ∧ Hid (Own w.heap.size v (l ++ List.replicate j ByteArray.empty) w2) ∧ Hid (Below w.heap.size w w2)) (fun _ i _ => b - (intOf i).toNat)
                      case atStart => exact ⟨0, by omega, rfl, Lib.hid (by rw [List.replicate_zero, List.append_nil]; exact HO.out), HW⟩
                      case round =>
                        obtain ⟨j, hj, rfl, HO2, HW2⟩ := hrel
                        by_cases hjb : j < b
                        · go_wp2_with (at_builtin; refine app_one (w0 := w) rfl (.tmp 117) (.tmp 118) rfl _ _ ⟨#[]⟩ rfl rfl HO2 (by rw [List.length_append, List.length_replicate]; omega) HW2 ?_; intro v3 w3 HO3 HW3; replace HO3 := Lib.hid (Bk.rep_cons ▸ HO3.out))
                          go_roundw
                          case rel => exact ⟨j + 1, by omega, by go_num, HO3, HW3⟩
                          case measure => simp [intOf]; omega
                        · obtain rfl : j = b := by omega
                          obtain ⟨c, hcq⟩ : ∃ c, c = Bk.firstN s q m2 := ⟨_, rfl⟩
                          rw [← hcq] at hc2 HCR HFR
                          have HCQ := Lib.hid hcq
                          clear hcq
                          have hway : (fl = true ∨ (fl = false ∧ ¬ c < m2) ∨ (fl = false ∧ c < m2 ∧ (bt s c == 58) = false) ∨ (fl = false ∧ c < m2 ∧ (bt s c == 58) = true ∧ Bk.endsB s ((c : Int) + 1) = false)) ∨
                              (fl = false ∧ c < m2 ∧ (bt s c == 58) = true ∧ Bk.endsB s ((c : Int) + 1) = true) := by
                            cases fl with
                            | true => exact .inl (.inl rfl)
                            | false =>
                              by_cases h1 : c < m2
                              · cases h2 : (bt s c == 58) with
                                | false => exact .inl (.inr (.inr (.inl ⟨rfl, h1, rfl⟩)))
                                | true =>
                                  cases h3 : Bk.endsB s ((c : Int) + 1) with
                                  | false => exact .inl (.inr (.inr (.inr ⟨rfl, h1, rfl, rfl⟩)))
                                  | true => exact .inr ⟨rfl, h1, rfl, rfl⟩
                              · exact .inl (.inr (.inl ⟨rfl, h1⟩))
                          rcases hway with hway | ⟨rfl, h1, h2, h3⟩
                          · have HC3 : Hid (false = true ∨ fl = true ∨ Bk.colonB s q = false) := Lib.hid (by
                              rcases hway with h | ⟨_, h⟩ | ⟨_, h, h'⟩ | ⟨_, h, h', h''⟩
                              · exact .inr (.inl h)
                              · exact .inr (.inr (by rw [HCR.out, decide_eq_false h]; rfl))
                              · exact .inr (.inr (by rw [HCR.out, h']; simp))
                              · exact .inr (.inr (by rw [HCR.out, h'']; simp)))
                            rcases hway with rfl | ⟨rfl, h1⟩ | ⟨rfl, h1, h2⟩ | ⟨rfl, h1, h2, h3⟩
                            all_goals
                              go_wp2_with first
                                | (at_builtin; refine app_one (w0 := w) rfl (.tmp 120) (.tmp 125) rfl _ _ (s.extract p q) rfl rfl HO2 (by rw [List.length_append, List.length_replicate]; omega) HW2 ?_; intro v3 w3 HO3 HW3)
                                | (go_at_call 73; refine (rfirst_any s q m2 _ (by omega) hm2).mono ?_; rintro e1 w2 ⟨rfl, rfl⟩; rw [← HCQ.out])
                                | (go_at_call 34; refine (rends_any _ _ _).mono ?_; rintro e1 w2 ⟨rfl, rfl⟩)
                              go_roundw
                              case rel => exact ⟨q, _, false, rfl, rfl, by omega, HR2, HC3, HO3, HW3⟩
                              case measure => simp [intOf]; omega
                          · have HF := Lib.hid (HCo.out rfl q _ HR2.out (by rw [HCR.out, decide_eq_true h1, h2, h3]; rfl))
                            go_wp2_with first
                              | (at_builtin; refine app_one (w0 := w) rfl (.tmp 120) (.tmp 125) rfl _ _ (s.extract p q) rfl rfl HO2 (by rw [List.length_append, List.length_replicate]; omega) HW2 ?_; intro v3 w3 HO3 HW3)
                              | (go_at_call 73; refine (rfirst_any s q m2 _ (by omega) hm2).mono ?_; rintro e1 w2 ⟨rfl, rfl⟩; rw [← HCQ.out])
                              | (go_at_call 34; refine (rends_any _ _ _).mono ?_; rintro e1 w2 ⟨rfl, rfl⟩)
                            refine bodyPost_ret (v := .tuple #[.string ByteArray.empty, .int .i64 c, .bool false, .int .i64 5]) (by simp [results, Try.results84, go_sem]; try rfl) rfl ⟨by rw [HF.out, HFR.out], HW3.out⟩
                · have HF := HX.out (by rw [HNo.out]; exact Bk.nextT_kind (fun h => hK5 (HKK.out.trans h)))
                  have b5 : (K != 5) = true := by simpa using hK5
                  clear hK5
                  obtain ⟨ad, cp, hv, hst, hcap⟩ := own_strs HO.out (by omega)
                  subst hv
                  have HST := Lib.hid hst
                  clear hst hcap
                  go_wp2_with first
                    | (go_at_call 46; refine (rkind_any s _ _ (by omega)).mono ?_; rintro e1 w2 ⟨rfl, rfl⟩; rw [HN.out, ← HKK.out])
                    | (go_at_call 42; refine (rin_any s _ _ (by omega)).mono ?_; rintro e1 w2 ⟨rfl, rfl⟩; rw [HN.out])
                    | (go_at_call 40; refine (rrow_any s _ _ (by omega)).mono ?_; rintro e1 w2 ⟨rfl, rfl⟩; rw [HN.out, ← HM2.out])
                    | (go_at_call 73; refine (rfirst_any s (t + 1) m2 _ (by omega) hm2).mono ?_; rintro e1 w2 ⟨rfl, rfl⟩; rw [← HP.out])
                    | (go_at_call 86; refine (rpart_any s _ fl _ (by omega) (by omega)).mono ?_; rintro e1 w2 ⟨rfl, rfl⟩; rw [Int.toNat_natCast, ← HQ.out])
                    | (go_at_call 56; refine (rflow56_any _ _ _ l _ HST.out HZ.out).mono ?_; rintro e1 w2 ⟨rfl, hg⟩; replace HW := Lib.hid (HW.out.trans (hg.mono HW.out.size)); clear hg)
                  refine bodyPost_ret (v := .tuple #[.string (Bk.foldFlow l), .int .i64 e, .bool o, .int .i64 0]) (by simp [results, Try.results84, go_sem]; try rfl) rfl ⟨by rw [HF.out], HW.out⟩
            · have HF := HX.out (by rw [HT.out, HS.out.1]; exact Bk.nextT_out (by omega) hts)
              obtain ⟨ad, cp, hv, hst, hcap⟩ := own_strs HO.out (by omega)
              subst hv
              have HST := Lib.hid hst
              clear hst hcap
              go_wp2_with first
                | (go_at_call 56; refine (rflow56_any _ _ _ l _ HST.out HZ.out).mono ?_; rintro e1 w2 ⟨rfl, hg⟩; replace HW := Lib.hid (HW.out.trans (hg.mono HW.out.size)); clear hg)
              refine bodyPost_ret (v := .tuple #[.string (Bk.foldFlow l), .int .i64 e, .bool o, .int .i64 0]) (by simp [results, Try.results84, go_sem]; try rfl) rfl ⟨by rw [HF.out], HW.out⟩
        · have HF := HX.out (by rw [HT.out]; exact Bk.nextT_out (by omega) hm)
          obtain ⟨ad, cp, hv, hst, hcap⟩ := own_strs HO.out (by omega)
          subst hv
          have HST := Lib.hid hst
          clear hst hcap
          go_wp2_with first
            | (go_at_call 40; refine (rrow_any s _ _ (by omega)).mono ?_; rintro e1 w2 ⟨rfl, rfl⟩; rw [HK.out, ← HM.out])
            | (go_at_call 73; refine (rfirst_any s e m _ (by omega) hm).mono ?_; rintro e1 w2 ⟨rfl, rfl⟩)
            | (go_at_call 56; refine (rflow56_any _ _ _ l _ HST.out HZ.out).mono ?_; rintro e1 w2 ⟨rfl, hg⟩; replace HW := Lib.hid (HW.out.trans (hg.mono HW.out.size)); clear hg)
          refine bodyPost_ret (v := .tuple #[.string (Bk.foldFlow l), .int .i64 e, .bool o, .int .i64 0]) (by simp [results, Try.results84, go_sem]; try rfl) rfl ⟨by rw [HF.out], HW.out⟩
end Go.Proofs.Ytmmhpejnfkienaa
