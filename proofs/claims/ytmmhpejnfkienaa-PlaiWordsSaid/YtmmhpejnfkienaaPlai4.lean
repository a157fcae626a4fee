/- next of package plai: contract. -/
import Derived.Test.YtmmhpejnfkienaaPlai3
namespace Go.Proofs.Ytmmhpejnfkienaa
open Go Go.RowKit Go.PlainAid
set_option linter.unusedVariables false
theorem ret_next {a b : Int} {c : Bool} {x : Nat × Nat × Bool} (h1 : a = x.1) (h2 : b = x.2.1) (h3 : c = x.2.2) :
    Ending.returned (.tuple #[.int .i64 a, .int .i64 b, .bool c]) = .returned (.tuple #[.int .i64 (x.1 : Nat), .int .i64 (x.2.1 : Nat), .bool x.2.2]) := by rw [h1, h2, h3]
set_option maxHeartbeats 3200000 in
theorem next_any (s : ByteArray) (k : Nat) (n : Int) (fl : Bool) (w : World) (hs : s.size ≤ 1000000) (hk : k ≤ s.size) :
    Calls Try.prog 87 #[.string s, .int .i64 k, .int .i64 n, .bool fl] w fun e w' => e = .returned (.tuple #[.int .i64 ((Bk.nextS s k n fl).1 : Nat), .int .i64 ((Bk.nextS s k n fl).2.1 : Nat), .bool (Bk.nextS s k n fl).2.2]) ∧ Below w.heap.size w w' := by
  have hb := get_bt s
  have HK := Lib.hid (Bk.heldN_nat (s := s) (k := k) hk)
  have ht := Bk.toN_le (s := s) (k := k) hk
  have hg := Bk.toN_ge s k
  by_cases h1 : Bk.firstN s k s.size < Bk.toN s k
  · have HE : Hid (Bk.nextS s k n fl = (0, 0, false)) := Lib.hid (by rw [Bk.nextS, if_pos h1])
    go_enter Try.func87, Try.ntmps87
    go_wp2_with first
      | (go_at_call 39; refine (row_any s k _ (by omega)).mono ?_; rintro e w' ⟨rfl, rfl⟩; rw [HK.out])
      | (go_at_call 88; refine (white88_any s k _ hs).mono ?_; rintro e w' ⟨rfl, rfl⟩)
    go_ret3
    exact ⟨by rw [HE.out]; rfl, Below.refl _ _⟩
  · have HX : Hid (Bk.nextS s k n fl = if (Bk.skipN s (s.size + 1) (Bk.toN s k) 0).1 < s.size ∧ Bk.kindN s ((Bk.skipN s (s.size + 1) (Bk.toN s k) 0).1 + 1) = 5 then
    (Bk.firstN s ((Bk.skipN s (s.size + 1) (Bk.toN s k) 0).1 + 1) s.size, (Bk.skipN s (s.size + 1) (Bk.toN s k) 0).2,
      decide (n < Bk.inN s ((Bk.skipN s (s.size + 1) (Bk.toN s k) 0).1 + 1)) && decide (Bk.firstN s ((Bk.skipN s (s.size + 1) (Bk.toN s k) 0).1 + 1) s.size < Bk.partN s (Bk.firstN s ((Bk.skipN s (s.size + 1) (Bk.toN s k) 0).1 + 1) s.size) fl))
      else (0, 0, false)) := Lib.hid (by rw [Bk.nextS, if_neg h1])
    go_enter Try.func87, Try.ntmps87
    go_wp2_with first
      | (go_at_call 39; refine (row_any s k _ (by omega)).mono ?_; rintro e w' ⟨rfl, rfl⟩; rw [HK.out])
      | (go_at_call 88; refine (white88_any s k _ hs).mono ?_; rintro e w' ⟨rfl, rfl⟩)
    obtain ⟨F, hF⟩ : ∃ F, F = s.size + 1 := ⟨_, rfl⟩
    obtain ⟨T0, hT⟩ : ∃ T0, T0 = Bk.toN s k := ⟨_, rfl⟩
    rw [← hF, ← hT] at HX
    rw [← hT] at ht ⊢
    have hF2 : s.size - T0 < F := by omega
    have HT := Lib.hid hT
    clear hF hT h1 hg
    go_loopw [11, 13] (fun bl tv wr => ∃ t b f : Nat, t ≤ s.size ∧ b ≤ t + 1 ∧ tv = .int .i64 t ∧ bl = .int .i64 b ∧ wr = w ∧ Hid (Bk.skipN s F T0 0 = Bk.skipN s f t b ∧ s.size - t < f)) (fun _ tv _ => s.size - (intOf tv).toNat)
    case atStart => exact ⟨T0, 0, F, ht, by omega, rfl, rfl, rfl, Lib.hid ⟨rfl, hF2⟩⟩
    case round =>
      obtain ⟨t, b, f, htt, hbt, rfl, rfl, rfl, HS⟩ := hrel
      by_cases hlt : t < s.size
      · have HN : Hid (Bk.heldN s ((t : Int) + 1) = t + 1) := Lib.hid (Bk.heldN_nat (s := s) (k := t + 1) (by omega))
        have hg2 := Bk.toN_ge s (t + 1)
        have hl2 := Bk.toN_le (s := s) (k := t + 1) (by omega)
        obtain ⟨K, hK⟩ : ∃ K, K = Bk.kindN s (t + 1) := ⟨_, rfl⟩
        have HKK := Lib.hid hK
        clear hK
        by_cases hK1 : K = 1
        · have HY := Lib.hid (Bk.skipN_yes (b := b) hlt (by rw [← HKK.out]; exact hK1) HS.out.2)
          subst hK1
          go_wp2_with first
            | (go_at_call 45; refine (kind_any s _ _ (by omega)).mono ?_; rintro e w' ⟨rfl, rfl⟩; rw [HN.out, ← HKK.out])
            | (go_at_call 39; refine (row_any s _ _ (by omega)).mono ?_; rintro e w' ⟨rfl, rfl⟩; rw [HN.out])
          go_roundw
          case rel =>
            obtain ⟨f', h1, h2⟩ := HY.out
            exact ⟨Bk.toN s (t + 1), b + 1, f', hl2, by omega, rfl, by go_num, trivial, Lib.hid ⟨HS.out.1.trans h1, h2⟩⟩
          case measure => simp [intOf]; omega
        · have HNo := Lib.hid (HS.out.1.trans (Bk.skipN_no (f := f) (b := b) (show ¬ (t < s.size ∧ Bk.kindN s (t + 1) = 1) from fun h => hK1 (HKK.out.trans h.2))))
          by_cases hK5 : K = 5
          · have hp := Bk.firstN_le (s := s) (k := t + 1) (m := s.size) (by omega)
            have hin : 0 ≤ Bk.inN s (t + 1) := Nat.zero_le _
            have HE : Hid (Bk.nextS s k n fl = (Bk.firstN s (t + 1) s.size, b, decide (n < Bk.inN s (t + 1)) && decide (Bk.firstN s (t + 1) s.size < Bk.partN s (Bk.firstN s (t + 1) s.size) fl))) := Lib.hid (by
              rw [HX.out, HNo.out, if_pos ⟨hlt, by rw [← HKK.out]; exact hK5⟩])
            subst hK5
            by_cases hn : n < (Bk.inN s (t + 1) : Int)
            · go_wp2_with first
                | (go_at_call 45; refine (kind_any s _ _ (by omega)).mono ?_; rintro e w' ⟨rfl, rfl⟩; rw [HN.out, ← HKK.out])
                | (go_at_call 88; refine (white88_any s (t + 1) _ hs).mono ?_; rintro e w' ⟨rfl, rfl⟩)
                | (go_at_call 41; refine (in_any s _ _ (by omega)).mono ?_; rintro e w' ⟨rfl, rfl⟩; rw [HN.out])
                | (go_at_call 64; refine (part_any s _ fl _ hs (by omega)).mono ?_; rintro e w' ⟨rfl, hg⟩; rw [Int.toNat_natCast])
              go_ret3
              exact ⟨ret_next (by rw [HE.out]) (by rw [HE.out]) (by rw [HE.out]; show _ = (decide (n < (Bk.inN s (t + 1) : Int)) && _); rw [decide_eq_true hn, Bool.true_and]), hg⟩
            · have HH := Lib.hid hn
              go_wp2_with first
                | (go_at_call 45; refine (kind_any s _ _ (by omega)).mono ?_; rintro e w' ⟨rfl, rfl⟩; rw [HN.out, ← HKK.out])
                | (go_at_call 88; refine (white88_any s (t + 1) _ hs).mono ?_; rintro e w' ⟨rfl, rfl⟩)
                | (go_at_call 41; refine (in_any s _ _ (by omega)).mono ?_; rintro e w' ⟨rfl, rfl⟩; rw [HN.out])
              go_ret3
              exact ⟨ret_next (by rw [HE.out]) (by rw [HE.out]) (by rw [HE.out]; show _ = (decide (n < (Bk.inN s (t + 1) : Int)) && _); rw [decide_eq_false (by have := HH.out; omega), Bool.false_and]), Below.refl _ _⟩
          · have HE : Hid (Bk.nextS s k n fl = (0, 0, false)) := Lib.hid (by
              rw [HX.out, HNo.out, if_neg (fun h => hK5 (HKK.out.trans h.2))])
            have b1 : (K == 1) = false := by simpa using hK1
            have b5 : (K == 5) = false := by simpa using hK5
            clear hK1 hK5
            go_wp2_with first
              | (go_at_call 45; refine (kind_any s _ _ (by omega)).mono ?_; rintro e w' ⟨rfl, rfl⟩; rw [HN.out, ← HKK.out])
            go_ret3
            exact ⟨by rw [HE.out]; rfl, Below.refl _ _⟩
      · have HE : Hid (Bk.nextS s k n fl = (0, 0, false)) := Lib.hid (by
          rw [HX.out, HS.out.1, Bk.skipN_no (fun h => hlt h.1), if_neg (fun h => hlt h.1)])
        go_wp2
        go_ret3
        exact ⟨by rw [HE.out]; rfl, Below.refl _ _⟩
end Go.Proofs.Ytmmhpejnfkienaa
