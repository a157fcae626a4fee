/- The law PropNames of chapter 14: its walk. -/
import Derived.Test.YtmmhpejnfkienaaPropNames
namespace Go.Proofs.Ytmmhpejnfkienaa
open Go Go.RowKit Go.PlainAid
set_option linter.unusedVariables false
set_option maxRecDepth 20000 in
set_option maxHeartbeats 3200000 in
theorem propNames_walk (s : ByteArray) (a : Int) (w : World) (hs0 : s.size ≤ maxLen) :
    Calls Try.prog 12 #[.string s, .int .i64 a] w fun e w' => e = .returned (.bool true) ∧ Below w.heap.size w w' := by
  unfold maxLen at hs0
  have hbt := get_bt s
  by_cases hl : s.size ≤ 20
  · have hk := Bk.lowN_lt (x := a) (n := 5) (by omega)
    go_enter Try.func12, Try.ntmps12
    go_wp2_with fail
    go_loop [5, 6] (fun t i => ∃ (k : Nat), k ≤ s.size ∧ i = .int .i64 k ∧ t = .string (Bk.filtS s k)) (fun _ i => s.size - (intOf i).toNat)
    case atStart => exact ⟨0, Nat.zero_le _, rfl, rfl⟩
    case round =>
      obtain ⟨k, hk', rfl, rfl⟩ := hrel
      have hfl := Bk.filtS_le s k hk'
      by_cases hlt : k < s.size
      · have HS := Lib.hid (Bk.stop_of hlt)
        have hz2 := Bk.size_ext s k (k + 1) (by omega)
        cases hE : Bk.endsB s (k : Int) with
        | true =>
          have HF := Lib.hid (Bk.filtS_no (s := s) (k := k) (by rw [HS.out, hE]; rfl))
          go_wp2_with first
            | (go_at_call 33; refine (ends_any _ _ _).mono ?_; rintro e w' ⟨rfl, rfl⟩)
            | (go_at_call 26; refine (flow_any _ _).mono ?_; rintro e w' ⟨rfl, rfl⟩)
          go_round
          case rel => exact ⟨k + 1, by omega, by go_num, by rw [HF.out]⟩
          case measure => simp [intOf]; omega
        | false =>
          cases hF : Bk.flowB (bt s k) with
          | true =>
            have HF := Lib.hid (Bk.filtS_no (s := s) (k := k) (by rw [HS.out, hF]; simp))
            go_wp2_with first
              | (go_at_call 33; refine (ends_any _ _ _).mono ?_; rintro e w' ⟨rfl, rfl⟩)
              | (go_at_call 26; refine (flow_any _ _).mono ?_; rintro e w' ⟨rfl, rfl⟩)
            go_round
            case rel => exact ⟨k + 1, by omega, by go_num, by rw [HF.out]⟩
            case measure => simp [intOf]; omega
          | false =>
            have HF := Lib.hid (Bk.filtS_yes (s := s) (k := k) (by rw [HS.out, hE, hF]; rfl))
            go_wp2_with first
              | (go_at_call 33; refine (ends_any _ _ _).mono ?_; rintro e w' ⟨rfl, rfl⟩)
              | (go_at_call 26; refine (flow_any _ _).mono ?_; rintro e w' ⟨rfl, rfl⟩)
            go_round
            case rel => exact ⟨k + 1, by omega, by go_num, by rw [HF.out]⟩
            case measure => simp [intOf]; omega
      · obtain rfl : k = s.size := by omega
        have HT := Lib.hid (Bk.filtS_bt s s.size (Nat.le_refl _))
        generalize Bk.filtS s s.size = t at *
        obtain ⟨c, hc, hcz, hcf⟩ := Bk.tab5_at (Bk.lowN a 5) (by omega)
        have z1 := Bk.size_app ⟨#[38]⟩ t
        have z2 := Bk.size_app (⟨#[38]⟩ ++ t) c
        have z3 := Bk.size_app ⟨#[42]⟩ t
        have z4 := Bk.size_app (⟨#[42]⟩ ++ t) c
        have z5 : ({ data := #[38] } : ByteArray).size = 1 := rfl
        have z6 : ({ data := #[42] } : ByteArray).size = 1 := rfl
        have hcz2 : c.size ≤ 1 := by omega
        have hz1 : (⟨#[38]⟩ ++ t ++ c : ByteArray).size ≤ 4611686018427387903 := by omega
        have hz2 : (⟨#[42]⟩ ++ t ++ c : ByteArray).size ≤ 4611686018427387903 := by omega
        by_cases ht0 : t.size = 0
        · have R1 := Lib.hid (Bk.anchor_none (a := ⟨#[38]⟩) rfl HT.out hcz hcf rfl ht0 true)
          have R2 := Lib.hid (Bk.anchor_none (a := ⟨#[38]⟩) rfl HT.out hcz hcf rfl ht0 false)
          have R3 := Lib.hid (Bk.alias_none (a := ⟨#[42]⟩) rfl HT.out hcz hcf rfl ht0)
          have he : t.toList = [] := by
            rw [Lib.toList_data]
            exact List.length_eq_zero_iff.1 (by simpa using ht0)
          have ht1 : t.size ≤ 0 := by omega
          clear ht0 hcz
          go_wp2_with first
            | (go_at_call 32; refine (low_any _ _ _ (by omega) (by omega)).mono ?_; rintro e w' ⟨rfl, rfl⟩)
            | (go_at_call 52; with_reducible refine (read_any _ _ true _ hz1 (by decide)).mono ?_; rintro e w' ⟨rfl, hg⟩; rw [R1.out]; unfold back4i; have HG := Lib.hid hg; clear hg)
            | (go_at_call 52; with_reducible refine (read_any _ _ false _ hz1 (by decide)).mono ?_; rintro e w' ⟨rfl, hg⟩; rw [R2.out]; unfold back4i; have HG2 := Lib.hid hg; clear hg)
            | (go_at_call 53; refine (alias_any _ _ _ hz2 (by decide)).mono ?_; rintro e w' ⟨rfl, rfl⟩; rw [R3.out]; unfold back3i)
            | (go_at_call 50; refine (awake14 _).mono ?_; rintro e w' ⟨rfl, hg⟩; have HG3 := Lib.hid hg; clear hg)
          go_ret
          have B1 := ((Below.refl w.heap.size w).alloc (Nat.le_refl _) _).trans (HG.out.mono (by simp))
          have B2 := B1.trans (HG2.out.mono B1.size)
          exact ⟨rfl, B2.trans (HG3.out.mono B2.size)⟩
        · have ht1 : 0 < t.size := by omega
          have R1 : Hid (Bk.readI (⟨#[38]⟩ ++ t ++ c) 0 true = (t, ByteArray.empty, (t.size : Int) + 1, 0)) := Lib.hid ((Bk.anchor_some (a := ⟨#[38]⟩) rfl HT.out hcz hcf rfl ht1 true).trans (if_pos rfl))
          have R2 : Hid (Bk.readI (⟨#[38]⟩ ++ t ++ c) 0 false = (ByteArray.empty, ByteArray.empty, (t.size : Int) + 1, 5)) := Lib.hid ((Bk.anchor_some (a := ⟨#[38]⟩) rfl HT.out hcz hcf rfl ht1 false).trans (if_neg (by decide)))
          have R3 := Lib.hid (Bk.alias_some (a := ⟨#[42]⟩) rfl HT.out hcz hcf rfl ht1)
          have he : t.toList.isEmpty = false := by
            rw [Lib.toList_data]
            cases hq : t.data.toList with
            | nil => exfalso; have : t.data.toList.length = 0 := by rw [hq]; rfl
                     rw [Array.length_toList] at this; exact ht0 this
            | cons x l => rfl
          clear ht0 hcz
          go_wp2_with first
            | (go_at_call 32; refine (low_any _ _ _ (by omega) (by omega)).mono ?_; rintro e w' ⟨rfl, rfl⟩)
            | (go_at_call 52; with_reducible refine (read_any _ _ true _ hz1 (by decide)).mono ?_; rintro e w' ⟨rfl, hg⟩; rw [R1.out]; unfold back4i; have HG := Lib.hid hg; clear hg)
            | (go_at_call 52; with_reducible refine (read_any _ _ false _ hz1 (by decide)).mono ?_; rintro e w' ⟨rfl, hg⟩; rw [R2.out]; unfold back4i; have HG2 := Lib.hid hg; clear hg)
            | (go_at_call 53; refine (alias_any _ _ _ hz2 (by decide)).mono ?_; rintro e w' ⟨rfl, rfl⟩; rw [R3.out]; unfold back3i)
            | (go_at_call 50; refine (awake14 _).mono ?_; rintro e w' ⟨rfl, hg⟩; have HG3 := Lib.hid hg; clear hg)
          go_ret
          have B1 := ((Below.refl w.heap.size w).alloc (Nat.le_refl _) _).trans (HG.out.mono (by simp))
          have B2 := B1.trans (HG2.out.mono B1.size)
          exact ⟨rfl, B2.trans (HG3.out.mono B2.size)⟩
  · go_enter Try.func12, Try.ntmps12
    go_wp2_with (go_at_call 50; refine (awake14 _).mono ?_; rintro e w' ⟨rfl, hg⟩; have HG := Lib.hid hg; clear hg)
    go_ret
    exact ⟨rfl, HG.out⟩
end Go.Proofs.Ytmmhpejnfkienaa
