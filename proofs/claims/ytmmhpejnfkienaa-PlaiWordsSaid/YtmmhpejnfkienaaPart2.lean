/- Part of package plai: contract. -/
import Derived.Test.YtmmhpejnfkienaaPart1
namespace Go.Proofs.Ytmmhpejnfkienaa
open Go Go.RowKit Go.PlainAid
set_option linter.unusedVariables false
set_option maxHeartbeats 1600000 in
theorem part_any (s : ByteArray) (a : Int) (fl : Bool) (w : World) (hs : s.size ≤ 1000000) (ha : 0 ≤ a) :
    Calls Try.prog 64 #[.string s, .int .i64 a, .bool fl] w fun e w' => e = .returned (.int .i64 (Bk.partN s a.toNat fl : Nat)) ∧ Below w.heap.size w w' := by
  obtain ⟨k, rfl⟩ := Int.eq_ofNat_of_zero_le ha
  rw [Int.toNat_natCast]
  have hb := get_bt s
  by_cases hk : k < s.size
  · have HD : Hid (decide (k < s.size) = true) := Lib.hid (by simp [hk])
    have HK := Lib.hid (Bk.heldN_nat (s := s) (k := k) (by omega))
    have HP : Hid (Bk.partN s k fl = Bk.trimN s k (Bk.partE s k fl)) := Lib.hid (by rw [Bk.partN, if_neg (by omega)])
    have ht := Bk.toN_le (s := s) (k := k) (by omega)
    have hg := Bk.toN_ge s k
    obtain ⟨t, hT⟩ : ∃ t, t = Bk.toN s k := ⟨_, rfl⟩
    rw [← hT] at ht hg
    have HT := Lib.hid hT
    have HE := Lib.hid (fun n (h : k ≤ n) (h0 : n ≤ Bk.toN s k) => Bk.partE_eq (s := s) (fl := fl) h h0)
    rw [← hT] at HE
    clear hT
    have hz := Bk.size_ext s k t ht
    go_enter Try.func64, Try.ntmps64
    go_wp2_with first
      | (go_at_call 90; refine (there_any _ _ _ (by omega)).mono ?_; rintro e w' ⟨rfl, rfl⟩; rw [Int.toNat_natCast, HD.out])
      | (go_at_call 39; refine (row_any s k _ (by omega)).mono ?_; rintro e w' ⟨rfl, rfl⟩; rw [HK.out, ← HT.out])
    go_loopw [9] (fun en wr => ∃ pos : Nat, wr = w.iter (s.extract k t) pos ∧ en = .int .i64 t ∧ k + pos ≤ t ∧ Hid (∀ j, k ≤ j → j < k + pos → Bk.endP s fl j = false)) (fun _ wr => s.size - wr.iterPos w.heap.size)
    case atStart => exact ⟨0, rfl, rfl, by omega, Lib.hid fun j _ _ => by omega⟩
    case round =>
      obtain ⟨pos, rfl, rfl, hpt, H⟩ := hrel
      by_cases hp : pos < (s.extract k t).size
      · have hnx : ∀ ty, (Instr.next (.pointer (some ⟨w.heap.size, 0, none⟩)) true ty).run Try.prog (w.iter (s.extract k t) pos) = _ := fun ty => run_next_any w (s.extract k t) pos ty hp
        have hlt : k + pos < t := by omega
        have he1 : ((k : Int) + (pos : Int)).toNat = k + pos := by omega
        have HE1 := Lib.hid he1
        clear he1
        have hst := Bk.decode_step hp
        have HS := Lib.hid hst
        clear hst
        cases hE : Bk.endP s fl (k + pos) with
        | true =>
          have HPE := Lib.hid (HP.out.trans (congrArg (Bk.trimN s k) (HE.out (k + pos) (by omega) (by omega) H.out (fun _ => hE))))
          go_wp2_with (go_at_call 91; refine (ends91_any s _ fl _ hs (by omega) (by omega)).mono ?_; rintro e w' ⟨rfl, rfl⟩; rw [HE1.out])
          clear hnx
          go_loopw [9] (fun i wq => ∃ q : Nat, k ≤ q ∧ q ≤ (k + pos) ∧ i = .int .i64 q ∧ wq = w.iter (s.extract k t) (pos + (Utf8.decode (s.extract k t) pos).2) ∧ Hid (∀ j, q ≤ j → j < (k + pos) → Bk.whiteB (bt s j) = true)) (fun i _ => (intOf i).toNat)
          case atStart => exact ⟨(k + pos), by omega, by omega, by go_num, rfl, Lib.hid fun j _ _ => by omega⟩
          case round =>
            obtain ⟨q, hq, hq', rfl, rfl, HW⟩ := hrel
            by_cases hkq : k < q
            · have e2 : ((q : Int) - 1).toNat = q - 1 := by omega
              cases hw : Bk.whiteB (bt s (q - 1)) with
              | true =>
                have HC : Hid (Bk.whiteB (bt s (q - 1)) = true) := Lib.hid hw
                go_wp2_with (go_at_call 22; refine (white_any _ _).mono ?_; rintro e w' ⟨rfl, rfl⟩)
                go_roundw
                case rel =>
                  refine ⟨q - 1, by omega, by omega, by rw [Int.ofNat_sub (by omega)]; rfl, trivial, Lib.hid fun j hj hj' => ?_⟩
                  by_cases e : j = q - 1
                  · subst e; exact HC.out
                  · exact HW.out j (by omega) hj'
                case measure => simp [intOf]; omega
              | false =>
                have HF := Lib.hid (HPE.out.trans (Bk.trimN_eq hq' hq HW.out (fun _ => hw)))
                go_wp2_with (go_at_call 22; refine (white_any _ _).mono ?_; rintro e w' ⟨rfl, rfl⟩)
                go_ret
                exact ⟨ret_int (by rw [HF.out]), (Below.refl _ _).alloc (Nat.le_refl _) _⟩
            · have HF := Lib.hid (HPE.out.trans (Bk.trimN_eq hq' hq HW.out (fun h => absurd h hkq)))
              go_wp2
              go_ret
              exact ⟨ret_int (by rw [HF.out]), (Below.refl _ _).alloc (Nat.le_refl _) _⟩
        | false =>
          have hw1 := HS.out.1
          have hw2 := HS.out.2.1
          go_wp2_with (go_at_call 91; refine (ends91_any s _ fl _ hs (by omega) (by omega)).mono ?_; rintro e w' ⟨rfl, rfl⟩; rw [HE1.out])
          go_roundw
          case rel =>
            refine ⟨pos + (Utf8.decode (s.extract k t) pos).2, rfl, rfl, by omega, Lib.hid fun j hj hj' => ?_⟩
            by_cases e1 : j < k + pos
            · exact H.out j hj e1
            · by_cases e2 : j = k + pos
              · subst e2; exact hE
              · refine Bk.endP_high ?_
                have := HS.out.2.2 (j - k) (by omega) (by omega)
                rw [Bk.bt_ext ht (by omega), show k + (j - k) = j from by omega] at this
                exact this
          case measure =>
            simp
            omega
      · have hpe : k + pos = t := by omega
        have HPE := Lib.hid (HP.out.trans (congrArg (Bk.trimN s k) (HE.out t (by omega) (by omega) (fun j a b => H.out j a (by omega)) (fun h => absurd h (by omega)))))
        clear hpe
        have hnx : ∀ ty, (Instr.next (.pointer (some ⟨w.heap.size, 0, none⟩)) true ty).run Try.prog (w.iter (s.extract k t) pos) = _ := fun ty => run_next_end w (s.extract k t) pos ty hp
        go_wp2
        clear hnx
        go_loopw [9] (fun i wq => ∃ q : Nat, k ≤ q ∧ q ≤ t ∧ i = .int .i64 q ∧ wq = w.iter (s.extract k t) pos ∧ Hid (∀ j, q ≤ j → j < t → Bk.whiteB (bt s j) = true)) (fun i _ => (intOf i).toNat)
        case atStart => exact ⟨t, by omega, by omega, by go_num, rfl, Lib.hid fun j _ _ => by omega⟩
        case round =>
          obtain ⟨q, hq, hq', rfl, rfl, HW⟩ := hrel
          by_cases hkq : k < q
          · have e2 : ((q : Int) - 1).toNat = q - 1 := by omega
            cases hw : Bk.whiteB (bt s (q - 1)) with
            | true =>
              have HC : Hid (Bk.whiteB (bt s (q - 1)) = true) := Lib.hid hw
              go_wp2_with (go_at_call 22; refine (white_any _ _).mono ?_; rintro e w' ⟨rfl, rfl⟩)
              go_roundw
              case rel =>
                refine ⟨q - 1, by omega, by omega, by rw [Int.ofNat_sub (by omega)]; rfl, trivial, Lib.hid fun j hj hj' => ?_⟩
                by_cases e : j = q - 1
                · subst e; exact HC.out
                · exact HW.out j (by omega) hj'
              case measure => simp [intOf]; omega
            | false =>
              have HF := Lib.hid (HPE.out.trans (Bk.trimN_eq hq' hq HW.out (fun _ => hw)))
              go_wp2_with (go_at_call 22; refine (white_any _ _).mono ?_; rintro e w' ⟨rfl, rfl⟩)
              go_ret
              exact ⟨ret_int (by rw [HF.out]), (Below.refl _ _).alloc (Nat.le_refl _) _⟩
          · have HF := Lib.hid (HPE.out.trans (Bk.trimN_eq hq' hq HW.out (fun h => absurd h hkq)))
            go_wp2
            go_ret
            exact ⟨ret_int (by rw [HF.out]), (Below.refl _ _).alloc (Nat.le_refl _) _⟩
  · have HD : Hid (decide (k < s.size) = false) := Lib.hid (by simp [hk])
    have HP : Hid (Bk.partN s k fl = k) := Lib.hid (by rw [Bk.partN, if_pos (by omega)])
    go_enter Try.func64, Try.ntmps64
    go_wp2_with (go_at_call 90; refine (there_any _ _ _ (by omega)).mono ?_; rintro e w' ⟨rfl, rfl⟩; rw [Int.toNat_natCast, HD.out])
    go_ret
    exact ⟨ret_int (by rw [HP.out]), Below.refl _ _⟩
end Go.Proofs.Ytmmhpejnfkienaa
