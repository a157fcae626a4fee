/- The reference's Kind: contract. -/
import Derived.Test.YtmmhpejnfkienaaRow4
namespace Go.Proofs.Ytmmhpejnfkienaa
open Go Go.RowKit Go.PlainAid
namespace Bk
theorem dash_at {s : ByteArray} {k : Nat} {c : Int} (h : dash3 s k c = true) : k + 3 ≤ s.size ∧ bt s k = c ∧ bt s (k + 1) = c ∧ bt s (k + 2) = c := by
  simpa [dash3, and_assoc] using h
theorem mark_room {s : ByteArray} {k f t : Nat} {c : Int} (hf : f ≤ k) (hg : k ≤ t) (ht : t ≤ s.size) (he : t < s.size → bt s t = 10) (hc : c ≠ 10) (h : dash3 s f c = true) : f + 3 ≤ t := by
  obtain ⟨h0, h1, h2, h3⟩ := dash_at h
  apply Nat.le_of_not_lt
  intro hlt
  have := he (by omega)
  rcases (by omega : t = f ∨ t = f + 1 ∨ t = f + 2) with e | e | e <;> rw [e] at this <;> omega
theorem cut3 {s : ByteArray} {k : Nat} (h : k + 3 ≤ s.size) (c : UInt8) : ((s.extract k (k + 3)).toList == [c, c, c]) = dash3 s k (c.toNat : Int) := by
  have e0 := get_bt s k (by omega)
  have e1 := get_bt s (k + 1) (by omega)
  have e2 := get_bt s (k + 2) (by omega)
  have hl : (s.extract k (k + 3)).toList = [s[k], s[k + 1], s[k + 2]] := by
    rw [Lib.toList_data]
    have hlen : s.data.toList.length = s.size := by simp
    simp only [ByteArray.data_extract, Array.toList_extract, List.extract_eq_take_drop]
    rw [show k + 3 - k = 3 from by omega, List.drop_eq_getElem_cons (by omega), List.drop_eq_getElem_cons (by omega), List.drop_eq_getElem_cons (by omega)]
    rfl
  rw [hl]
  unfold dash3
  rw [← e0, ← e1, ← e2, Bool.eq_iff_iff]
  have q : ∀ (a b : UInt8), ((a.toNat : Int) = (b.toNat : Int)) ↔ a = b := fun a b => ⟨fun e => (UInt8.toNat_inj.1 (by omega)), fun e => by rw [e]⟩
  simp [h, q, and_assoc]
end Bk
set_option maxHeartbeats 1600000 in
theorem rkind_any (s : ByteArray) (a : Int) (w : World) (hs : s.size ≤ 4611686018427387903) :
    Calls Try.prog 46 #[.string s, .int .i64 a] w fun e w' => e = .returned (.int .i64 (Bk.kindN s (Bk.heldN s a))) ∧ w = w' := by
  have hb := get_bt s
  have hh := Bk.heldN_le s a
  have hf := Bk.fromN_le s (Bk.heldN s a)
  have hg := Bk.toN_ge s (Bk.heldN s a)
  have ht := Bk.toN_le hh
  have hend := @Bk.toN_end s (Bk.heldN s a)
  have hp := Bk.firstN_le (s := s) (k := Bk.fromN s (Bk.heldN s a)) (m := Bk.toN s (Bk.heldN s a)) (by omega)
  have hp0 := Bk.firstN_ge s (Bk.fromN s (Bk.heldN s a)) (Bk.toN s (Bk.heldN s a))
  have HK : Hid (Bk.kindN s (Bk.heldN s a) = if Bk.markB s (Bk.fromN s (Bk.heldN s a)) 45 then 3 else if Bk.markB s (Bk.fromN s (Bk.heldN s a)) 46 then 4
    else if Bk.firstN s (Bk.fromN s (Bk.heldN s a)) (Bk.toN s (Bk.heldN s a)) = Bk.toN s (Bk.heldN s a) then 1 else if bt s (Bk.firstN s (Bk.fromN s (Bk.heldN s a)) (Bk.toN s (Bk.heldN s a))) = 35 then 2 else 5) := Lib.hid rfl
  obtain ⟨K, hK⟩ : ∃ K, K = Bk.kindN s (Bk.heldN s a) := ⟨_, rfl⟩
  rw [← hK] at HK ⊢
  clear hK
  obtain ⟨f, hF⟩ : ∃ f, f = Bk.fromN s (Bk.heldN s a) := ⟨_, rfl⟩
  obtain ⟨t, hT⟩ : ∃ t, t = Bk.toN s (Bk.heldN s a) := ⟨_, rfl⟩
  rw [← hF, ← hT] at hp hp0 HK
  rw [← hF] at hf
  rw [← hT] at hg ht hend
  obtain ⟨p, hP⟩ : ∃ p, p = Bk.firstN s f t := ⟨_, rfl⟩
  rw [← hP] at hp hp0 HK
  have HF := Lib.hid hF
  have HT := Lib.hid hT
  have HP := Lib.hid hP
  clear hF hT hP
  have hr45 : Bk.dash3 s f 45 = true → f + 3 ≤ t := Bk.mark_room hf hg ht hend (by decide)
  have hr46 : Bk.dash3 s f 46 = true → f + 3 ≤ t := Bk.mark_room hf hg ht hend (by decide)
  clear hend
  cases hm : Bk.markB s f 45 with
  | true =>
    have HE : Hid (K = 3) := Lib.hid (by rw [HK.out, hm]; rfl)
    have hm' : Bk.dash3 s f 45 = true ∧ Bk.endsB s ((f : Int) + 3) = true := by simpa [Bk.markB] using hm
    obtain ⟨hd, he⟩ := hm'
    have h3 := hr45 hd
    have h1 : ((s.extract f (f + 3)).toList == [45, 45, 45]) = true := (Bk.cut3 (by omega) 45).trans hd
    clear hr45 hr46 hm hd
    go_enter Try.func46, Try.ntmps46
    go_wp2_with first
      | (go_at_call 40; refine (rrow_any _ _ _ hs).mono ?_; rintro e w' ⟨rfl, rfl⟩; rw [← HF.out, ← HT.out])
      | (go_at_call 34; refine (rends_any _ _ _).mono ?_; rintro e w' ⟨rfl, rfl⟩)
    go_ret
    exact ⟨ret_int HE.out.symm, rfl⟩
  | false =>
    cases hm2 : Bk.markB s f 46 with
    | true =>
      have HE : Hid (K = 4) := Lib.hid (by rw [HK.out, hm, hm2]; rfl)
      have hm' : Bk.dash3 s f 46 = true ∧ Bk.endsB s ((f : Int) + 3) = true := by simpa [Bk.markB] using hm2
      obtain ⟨hd, he⟩ := hm'
      have h3 := hr46 hd
      have h1 : ((s.extract f (f + 3)).toList == [46, 46, 46]) = true := (Bk.cut3 (by omega) 46).trans hd
      have h2 : ((s.extract f (f + 3)).toList == [45, 45, 45]) = false := by
        refine (Bk.cut3 (by omega) 45).trans ?_
        show Bk.dash3 s f 45 = false
        cases h4 : Bk.dash3 s f 45 with
        | false => rfl
        | true => have := (Bk.dash_at h4).2.1; have := (Bk.dash_at hd).2.1; omega
      clear hr45 hr46 hm hm2 hd
      go_enter Try.func46, Try.ntmps46
      go_wp2_with first
        | (go_at_call 40; refine (rrow_any _ _ _ hs).mono ?_; rintro e w' ⟨rfl, rfl⟩; rw [← HF.out, ← HT.out])
        | (go_at_call 34; refine (rends_any _ _ _).mono ?_; rintro e w' ⟨rfl, rfl⟩)
      go_ret
      exact ⟨ret_int HE.out.symm, rfl⟩
    | false =>
      have hway : t < f + 3 ∨ (f + 3 ≤ t ∧ Bk.endsB s ((f : Int) + 3) = false) ∨ (f + 3 ≤ t ∧ Bk.endsB s ((f : Int) + 3) = true ∧ ((s.extract f (f + 3)).toList == [45, 45, 45]) = false ∧ ((s.extract f (f + 3)).toList == [46, 46, 46]) = false) := by
        by_cases h3 : f + 3 ≤ t
        · cases he : Bk.endsB s ((f : Int) + 3) with
          | false => exact .inr (.inl ⟨h3, rfl⟩)
          | true =>
            refine .inr (.inr ⟨h3, rfl, (Bk.cut3 (by omega) 45).trans ?_, (Bk.cut3 (by omega) 46).trans ?_⟩)
            · simpa [Bk.markB, he] using hm
            · simpa [Bk.markB, he] using hm2
        · exact .inl (by omega)
      clear hr45 hr46
      have HMM := Lib.hid (And.intro hm hm2)
      clear hm hm2
      rcases hway with hw | ⟨hw, hw2⟩ | ⟨hw, hw2, hw3, hw4⟩
      all_goals
        by_cases hpt : p = t
        · have HE : Hid (K = 1) := Lib.hid (by rw [HK.out, HMM.out.1, HMM.out.2, if_pos hpt]; rfl)
          have h1 : (((p : Int)) == (t : Int)) = true := by simp [hpt]
          have hpt' := Lib.hid hpt; clear hpt
          go_enter Try.func46, Try.ntmps46
          go_wp2_with first
            | (go_at_call 40; refine (rrow_any _ _ _ hs).mono ?_; rintro e w' ⟨rfl, rfl⟩; rw [← HF.out, ← HT.out])
            | (go_at_call 34; refine (rends_any _ _ _).mono ?_; rintro e w' ⟨rfl, rfl⟩)
            | (go_at_call 73; refine (rfirst_any s f t _ hs ht).mono ?_; rintro e w' ⟨rfl, rfl⟩; rw [← HP.out])
          go_ret
          exact ⟨ret_int HE.out.symm, rfl⟩
        · have hlt : p < t := by omega
          cases hc : (bt s p == 35) with
          | true =>
            have HE : Hid (K = 2) := Lib.hid (by rw [HK.out, HMM.out.1, HMM.out.2]; simp [hpt]; simpa using hc)
            go_enter Try.func46, Try.ntmps46
            go_wp2_with first
              | (go_at_call 40; refine (rrow_any _ _ _ hs).mono ?_; rintro e w' ⟨rfl, rfl⟩; rw [← HF.out, ← HT.out])
              | (go_at_call 34; refine (rends_any _ _ _).mono ?_; rintro e w' ⟨rfl, rfl⟩)
              | (go_at_call 73; refine (rfirst_any s f t _ hs ht).mono ?_; rintro e w' ⟨rfl, rfl⟩; rw [← HP.out])
            go_ret
            exact ⟨ret_int HE.out.symm, rfl⟩
          | false =>
            have HE : Hid (K = 5) := Lib.hid (by rw [HK.out, HMM.out.1, HMM.out.2]; simp [hpt]; simpa using hc)
            go_enter Try.func46, Try.ntmps46
            go_wp2_with first
              | (go_at_call 40; refine (rrow_any _ _ _ hs).mono ?_; rintro e w' ⟨rfl, rfl⟩; rw [← HF.out, ← HT.out])
              | (go_at_call 34; refine (rends_any _ _ _).mono ?_; rintro e w' ⟨rfl, rfl⟩)
              | (go_at_call 73; refine (rfirst_any s f t _ hs ht).mono ?_; rintro e w' ⟨rfl, rfl⟩; rw [← HP.out])
            go_ret
            exact ⟨ret_int HE.out.symm, rfl⟩
end Go.Proofs.Ytmmhpejnfkienaa
