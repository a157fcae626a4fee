/- What properties stand at a place: plain; the reader's method one: contract. -/
import Derived.Test.YtmmhpejnfkienaaHand5
namespace Go.Proofs.Ytmmhpejnfkienaa
open Go Go.RowKit Go.PlainAid
set_option linter.unusedVariables false
namespace Bk
/-- The property at a place: where it ends, what is wrong, the anchor and the tag then. -/
def oneN (s : ByteArray) (p : Nat) (a t : ByteArray) : Nat × Int × ByteArray × ByteArray :=
  if s.size ≤ p then (p, 0, a, t)
  else if bt s p = 38 then (if nameN s ((p + 1 : Nat) : Int) = 0 ∨ a.toList.isEmpty = false then (p, 5, a, t) else (p + 1 + nameN s ((p + 1 : Nat) : Int), 0, s.extract (p + 1) (p + 1 + nameN s ((p + 1 : Nat) : Int)), t))
  else if bt s p = 33 then (if t.toList.isEmpty = false then (p, 5, a, t) else (p + sizeN s p, 0, a, s.extract p (p + sizeN s p)))
  else (p, 0, a, t)
theorem nameN_le {s : ByteArray} {k : Nat} (h : k ≤ s.size) : k + nameN s (k : Int) ≤ s.size := by
  have key : ∀ f k, k ≤ s.size → k + runN s f k ≤ s.size := by
    intro f
    induction f with
    | zero => intro k h; simpa [runN] using h
    | succ f ih =>
      intro k h
      unfold runN
      split
      · rename_i q; have := ih (k + 1) (by omega); omega
      · omega
  unfold nameN
  rw [if_neg (by omega), Int.toNat_natCast]
  exact key _ _ h
end Bk
/-- The reader's memory. -/
def rdr (s a t : ByteArray) : Obj := .cells #[.string s, .string a, .string t] 69
set_option maxHeartbeats 3200000 in
theorem one_any (s a t : ByteArray) (p : Nat) (w : World) (hs : s.size ≤ 4611686018427387903) (hp : p ≤ 9223372036854775807) :
    Calls Try.prog 76 #[.pointer (some ⟨w.heap.size, 0, none⟩), .int .i64 p] (w.alloc (.cells #[.string s, .string a, .string t] 69)) fun e w' =>
      e = .returned (.tuple #[.int .i64 ((Bk.oneN s p a t).1 : Nat), .int .i64 (Bk.oneN s p a t).2.1]) ∧ w.alloc (.cells #[.string s, .string (Bk.oneN s p a t).2.2.1, .string (Bk.oneN s p a t).2.2.2] 69) = w' := by
  have hb := get_bt s
  have HO : Hid (Bk.oneN s p a t = if s.size ≤ p then (p, 0, a, t)
    else if bt s p = 38 then (if Bk.nameN s ((p + 1 : Nat) : Int) = 0 ∨ a.toList.isEmpty = false then (p, 5, a, t) else (p + 1 + Bk.nameN s ((p + 1 : Nat) : Int), 0, s.extract (p + 1) (p + 1 + Bk.nameN s ((p + 1 : Nat) : Int)), t))
    else if bt s p = 33 then (if t.toList.isEmpty = false then (p, 5, a, t) else (p + Bk.sizeN s p, 0, a, s.extract p (p + Bk.sizeN s p)))
    else (p, 0, a, t)) := Lib.hid rfl
  obtain ⟨O, hO⟩ : ∃ O, O = Bk.oneN s p a t := ⟨_, rfl⟩
  rw [← hO] at HO ⊢
  clear hO
  by_cases hlt : p < s.size
  · by_cases h38 : bt s p = 38
    · have H38 := Lib.hid h38
      have b38 : (bt s p == 38) = true := by rw [h38]; rfl
      clear h38
      obtain ⟨n, hn⟩ : ∃ n, n = Bk.nameN s ((p + 1 : Nat) : Int) := ⟨_, rfl⟩
      have hnl := Bk.nameN_le (s := s) (k := p + 1) (by omega)
      rw [← hn] at hnl
      have HN := Lib.hid hn
      have E1 : Hid ((p : Int) + 1 = ((p + 1 : Nat) : Int)) := Lib.hid (by omega)
      clear hn
      by_cases h0 : n = 0
      · have HV : Hid (O = (p, 5, a, t)) := Lib.hid (by rw [HO.out, if_neg (by omega), if_pos H38.out, if_pos (.inl (HN.out.symm.trans h0))])
        subst h0
        go_enter Try.func76, Try.ntmps76
        go_wp2_with (go_at_call 35; rw [E1.out]; refine (name_any _ _ _ (by omega) (by omega) (by omega)).mono ?_; rintro e w' ⟨rfl, rfl⟩; rw [← HN.out])
        go_ret2
        exact ⟨by (rw [HV.out]; try rfl), by (rw [HV.out]; try rfl)⟩
      · have hpos : 0 < n := by omega
        have hnb : ((n : Int) == 0) = false := by simp; omega
        cases ha : a.toList.isEmpty with
        | false =>
          have HV : Hid (O = (p, 5, a, t)) := Lib.hid (by rw [HO.out, if_neg (by omega), if_pos H38.out, if_pos (.inr ha)])
          clear h0
          go_enter Try.func76, Try.ntmps76
          go_wp2_with (go_at_call 35; rw [E1.out]; refine (name_any _ _ _ (by omega) (by omega) (by omega)).mono ?_; rintro e w' ⟨rfl, rfl⟩; rw [← HN.out])
          go_ret2
          exact ⟨by (rw [HV.out]; try rfl), by (rw [HV.out]; try rfl)⟩
        | true =>
          have HV : Hid (O = (p + 1 + n, 0, s.extract (p + 1) (p + 1 + n), t)) := Lib.hid (by
            rw [HO.out, if_neg (by omega), if_pos H38.out, ← HN.out, if_neg]
            rintro (q | q)
            · exact h0 q
            · rw [ha] at q; exact Bool.noConfusion q)
          have ha2 : a.toList = [] := by simpa using ha
          clear h0 ha
          go_enter Try.func76, Try.ntmps76
          go_wp2_with (go_at_call 35; rw [E1.out]; refine (name_any _ _ _ (by omega) (by omega) (by omega)).mono ?_; rintro e w' ⟨rfl, rfl⟩; rw [← HN.out])
          go_ret2
          exact ⟨by rw [HV.out]; exact ret_ints (by omega) rfl, by (rw [HV.out]; try rfl)⟩
    · have b38 : (bt s p == 38) = false := by simpa using h38
      by_cases h33 : bt s p = 33
      · have H33 := Lib.hid h33
        have b33 : (bt s p == 33) = true := by rw [h33]; rfl
        have hsz := Bk.size_le hlt
        cases ht : t.toList.isEmpty with
        | false =>
          have HV : Hid (O = (p, 5, a, t)) := Lib.hid (by rw [HO.out, if_neg (by omega), if_neg h38, if_pos h33, if_pos ht])
          clear h33 h38
          go_enter Try.func76, Try.ntmps76
          go_wp2_with fail
          go_ret2
          exact ⟨by (rw [HV.out]; try rfl), by (rw [HV.out]; try rfl)⟩
        | true =>
          have HV : Hid (O = (p + Bk.sizeN s p, 0, a, s.extract p (p + Bk.sizeN s p))) := Lib.hid (by rw [HO.out, if_neg (by omega), if_neg h38, if_pos h33, if_neg (by rw [ht]; decide)])
          have ht2 : t.toList = [] := by simpa using ht
          clear h33 h38 ht
          go_enter Try.func76, Try.ntmps76
          go_wp2_with (go_at_call 96; refine (size_any _ _ _ hs hlt H33.out).mono ?_; rintro e w' ⟨rfl, rfl⟩)
          go_ret2
          exact ⟨by rw [HV.out]; exact ret_ints (by omega) rfl, by (rw [HV.out]; try rfl)⟩
      · have b33 : (bt s p == 33) = false := by simpa using h33
        have HV : Hid (O = (p, 0, a, t)) := Lib.hid (by rw [HO.out, if_neg (by omega), if_neg h38, if_neg h33])
        clear h33 h38
        go_enter Try.func76, Try.ntmps76
        go_wp2_with fail
        go_ret2
        exact ⟨by (rw [HV.out]; try rfl), by (rw [HV.out]; try rfl)⟩
  · have HV : Hid (O = (p, 0, a, t)) := Lib.hid (by rw [HO.out, if_pos (by omega)])
    go_enter Try.func76, Try.ntmps76
    go_wp2_with fail
    go_ret2
    exact ⟨by (rw [HV.out]; try rfl), by (rw [HV.out]; try rfl)⟩
end Go.Proofs.Ytmmhpejnfkienaa
