/- Kind and Above of package rows, and of the reference: contracts. -/
import Derived.Test.YtmmhpejnfkienaaRow3
namespace Go.Proofs.Ytmmhpejnfkienaa
open Go Go.RowKit Go.PlainAid
set_option maxHeartbeats 1600000 in
theorem kind_any (s : ByteArray) (a : Int) (w : World) (hs : s.size ≤ 4611686018427387903) :
    Calls Try.prog 45 #[.string s, .int .i64 a] w fun e w' => e = .returned (.int .i64 (Bk.kindN s (Bk.heldN s a))) ∧ w = w' := by
  have hb := get_bt s
  have hh := Bk.heldN_le s a
  have hf := Bk.fromN_le s (Bk.heldN s a)
  have hg := Bk.toN_ge s (Bk.heldN s a)
  have ht := Bk.toN_le hh
  have hp := Bk.firstN_le (s := s) (k := Bk.fromN s (Bk.heldN s a)) (m := Bk.toN s (Bk.heldN s a)) (by omega)
  have hp0 := Bk.firstN_ge s (Bk.fromN s (Bk.heldN s a)) (Bk.toN s (Bk.heldN s a))
  have HK : Hid (Bk.kindN s (Bk.heldN s a) = if Bk.markB s (Bk.fromN s (Bk.heldN s a)) 45 then 3 else if Bk.markB s (Bk.fromN s (Bk.heldN s a)) 46 then 4
    else if Bk.firstN s (Bk.fromN s (Bk.heldN s a)) (Bk.toN s (Bk.heldN s a)) = Bk.toN s (Bk.heldN s a) then 1 else if bt s (Bk.firstN s (Bk.fromN s (Bk.heldN s a)) (Bk.toN s (Bk.heldN s a))) = 35 then 2 else 5) := Lib.hid rfl
  obtain ⟨K, hK⟩ : ∃ K, K = Bk.kindN s (Bk.heldN s a) := ⟨_, rfl⟩
  rw [← hK] at HK ⊢
  clear hK
  obtain ⟨f, hF⟩ : ∃ f, f = Bk.fromN s (Bk.heldN s a) := ⟨_, rfl⟩
  obtain ⟨t, hT⟩ : ∃ t, t = Bk.toN s (Bk.heldN s a) := ⟨_, rfl⟩
  rw [← hF, ← hT] at hp hp0 HK
  rw [← hF] at hf
  rw [← hT] at hg ht
  obtain ⟨p, hP⟩ : ∃ p, p = Bk.firstN s f t := ⟨_, rfl⟩
  rw [← hP] at hp hp0 HK
  have HF := Lib.hid hF
  have HT := Lib.hid hT
  have HP := Lib.hid hP
  clear hF hT hP
  have hz := Bk.size_ext s p t ht
  have hb2 := get_bt (s.extract p t)
  cases hm : Bk.markB s f 45 with
  | true =>
    have HE : Hid (K = 3) := Lib.hid (by rw [HK.out, hm]; rfl)
    go_enter Try.func45, Try.ntmps45
    go_wp2_with first
      | (go_at_call 39; refine (row_any _ _ _ hs).mono ?_; rintro e w' ⟨rfl, rfl⟩; rw [← HF.out, ← HT.out])
      | (go_at_call 71; refine (bare_any s f t _ ht (by omega)).mono ?_; rintro e w' ⟨rfl, rfl⟩; rw [← HP.out])
      | (go_at_call 72; refine (begun_dash _ _ _ hs (by omega)).mono ?_; rintro e w' ⟨rfl, rfl⟩)
    go_ret
    exact ⟨ret_int HE.out.symm, rfl⟩
  | false =>
    cases hm2 : Bk.markB s f 46 with
    | true =>
      have HE : Hid (K = 4) := Lib.hid (by rw [HK.out, hm, hm2]; rfl)
      go_enter Try.func45, Try.ntmps45
      go_wp2_with first
        | (go_at_call 39; refine (row_any _ _ _ hs).mono ?_; rintro e w' ⟨rfl, rfl⟩; rw [← HF.out, ← HT.out])
        | (go_at_call 71; refine (bare_any s f t _ ht (by omega)).mono ?_; rintro e w' ⟨rfl, rfl⟩; rw [← HP.out])
        | (go_at_call 72; with_reducible refine (begun_dash _ _ _ hs (by omega)).mono ?_; rintro e w' ⟨rfl, rfl⟩)
        | (go_at_call 72; with_reducible refine (begun_dots _ _ _ hs (by omega)).mono ?_; rintro e w' ⟨rfl, rfl⟩)
      go_ret
      exact ⟨ret_int HE.out.symm, rfl⟩
    | false =>
      by_cases hpt : p = t
      · have HE : Hid (K = 1) := Lib.hid (by rw [HK.out, hm, hm2, if_pos hpt]; rfl)
        have h0 : (s.extract p t).toList = [] := by rw [hpt]; exact Bk.ext_nil
        have hpt' := Lib.hid hpt; clear hpt
        go_enter Try.func45, Try.ntmps45
        go_wp2_with first
          | (go_at_call 39; refine (row_any _ _ _ hs).mono ?_; rintro e w' ⟨rfl, rfl⟩; rw [← HF.out, ← HT.out])
          | (go_at_call 71; refine (bare_any s f t _ ht (by omega)).mono ?_; rintro e w' ⟨rfl, rfl⟩; rw [← HP.out])
          | (go_at_call 72; with_reducible refine (begun_dash _ _ _ hs (by omega)).mono ?_; rintro e w' ⟨rfl, rfl⟩)
          | (go_at_call 72; with_reducible refine (begun_dots _ _ _ hs (by omega)).mono ?_; rintro e w' ⟨rfl, rfl⟩)
        go_ret
        exact ⟨ret_int HE.out.symm, rfl⟩
      · have hlt : p < t := by omega
        have h0 := Bk.ext_cons hlt ht
        have H0 := Lib.hid (Bk.bt_ext0 hlt ht)
        by_cases hc : bt s p = 35
        · have HE : Hid (K = 2) := Lib.hid (by rw [HK.out, hm, hm2, if_neg hpt, if_pos hc]; rfl)
          have h1 : (bt (s.extract p t) 0 == 35) = true := by rw [H0.out, hc]; rfl
          clear hc
          go_enter Try.func45, Try.ntmps45
          go_wp2_with first
            | (go_at_call 39; refine (row_any _ _ _ hs).mono ?_; rintro e w' ⟨rfl, rfl⟩; rw [← HF.out, ← HT.out])
            | (go_at_call 71; refine (bare_any s f t _ ht (by omega)).mono ?_; rintro e w' ⟨rfl, rfl⟩; rw [← HP.out])
            | (go_at_call 72; with_reducible refine (begun_dash _ _ _ hs (by omega)).mono ?_; rintro e w' ⟨rfl, rfl⟩)
            | (go_at_call 72; with_reducible refine (begun_dots _ _ _ hs (by omega)).mono ?_; rintro e w' ⟨rfl, rfl⟩)
          go_ret
          exact ⟨ret_int HE.out.symm, rfl⟩
        · have HE : Hid (K = 5) := Lib.hid (by rw [HK.out, hm, hm2, if_neg hpt, if_neg hc]; rfl)
          have h1 : (bt (s.extract p t) 0 == 35) = false := by rw [H0.out]; simpa using hc
          clear hc
          go_enter Try.func45, Try.ntmps45
          go_wp2_with first
            | (go_at_call 39; refine (row_any _ _ _ hs).mono ?_; rintro e w' ⟨rfl, rfl⟩; rw [← HF.out, ← HT.out])
            | (go_at_call 71; refine (bare_any s f t _ ht (by omega)).mono ?_; rintro e w' ⟨rfl, rfl⟩; rw [← HP.out])
            | (go_at_call 72; with_reducible refine (begun_dash _ _ _ hs (by omega)).mono ?_; rintro e w' ⟨rfl, rfl⟩)
            | (go_at_call 72; with_reducible refine (begun_dots _ _ _ hs (by omega)).mono ?_; rintro e w' ⟨rfl, rfl⟩)
          go_ret
          exact ⟨ret_int HE.out.symm, rfl⟩
end Go.Proofs.Ytmmhpejnfkienaa
