/- The law FoldTells of chapter 6: its walk. -/
import Derived.Test.YtmmhpejnfkienaaFold8
namespace Go.Proofs.Ytmmhpejnfkienaa
open Go Go.RowKit Go.PlainAid
set_option linter.unusedVariables false
set_option maxRecDepth 20000 in
set_option maxHeartbeats 3200000 in
theorem foldTells_walk (a0 : Option Addr) (len cap : Nat) (xs : List ByteArray) (a1 : Option Addr) (len1 cap1 : Nat) (zs : Nat → Bool) (w : World) (hlm : len ≤ 9223372036854775807) (hst0 : len ≤ 20 → StrsAt w a0 len xs) (hcap : a0 = none → cap = 0) (hbo : BoolsAt w a1 len1 zs) :
    Calls Try.prog 13 #[.slice a0 len cap, .slice a1 len1 cap1] w fun e w' => e = .returned (.bool true) ∧ Below w.heap.size w w' := by
  have hlm1 : len1 ≤ 9223372036854775807 := hbo.1
  have HBO := Lib.hid hbo.2
  have HCAP := Lib.hid hcap
  have HST0 := Lib.hid hst0
  clear hbo hcap hst0
  by_cases h20 : len ≤ 20
  · have HST := Lib.hid (HST0.out h20)
    clear HST0
    cases hlg : Bk.longB 200 (xs.map (·.size)) with
    | true =>
      have HLG := Lib.hid hlg
      clear hlg
      go_enter Try.func13, Try.ntmps13
      go_wp2_with first
        | (go_at_call 37; refine (long_strs _ _ _ _ xs _ (by decide) (by decide) HST.out).mono ?_; rintro e w' ⟨rfl, rfl⟩; rw [HLG.out])
        | (go_at_call 54; refine (awake6 _).mono ?_; rintro e w' ⟨rfl, hg⟩)
      go_ret
      exact ⟨rfl, hg⟩
    | false =>
      have hrow : ∀ j, (Bk.rowAt xs j).size ≤ 200 := by
        intro j
        by_cases hj : j < xs.length
        · have := Bk.longB_rows xs 200 hlg j hj; omega
        · have : Bk.rowAt xs j = ByteArray.empty := by
            unfold Bk.rowAt; rw [List.getD_eq_getElem?_getD, List.getElem?_eq_none (by omega)]; rfl
          rw [this]; exact Nat.zero_le _
      have HROW := Lib.hid hrow
      have HLG := Lib.hid hlg
      have H0 := Lib.hid (Below.refl w.heap.size w)
      clear hlg hrow
      go_enter Try.func13, Try.ntmps13
      go_wp2_with first
        | (go_at_call 37; refine (long_strs _ _ _ _ xs _ (by decide) (by decide) HST.out).mono ?_; rintro e w' ⟨rfl, rfl⟩; rw [HLG.out])
        | (at_builtin; refine app_all (w0 := w) rfl (.const (.slice none 0 0)) (.tmp 15) rfl a0 len cap xs rfl rfl HCAP.out HST (by omega) H0 ?_; intro v1 w1 HO1 HW1)
      have hxl : xs.length = len := HST.out.1
      obtain ⟨a2, cap2, hv, hst2, hcap2⟩ := own_strs HO1.out (by omega)
      subst hv
      rw [hxl] at hst2 hcap2 HO1
      clear hst2
      rw [hxl]
      go_loopw [6] (fun i wr => ∃ (k : Nat) (ys : List ByteArray), k ≤ len ∧ i = .int .i64 k ∧ Hid (ys.length = len ∧ ∀ j, (Bk.rowAt ys j).size ≤ 200) ∧ Hid (Own w.heap.size (.slice a2 len cap2) ys wr) ∧ Hid (Below w.heap.size w wr)) (fun i _ => len - (intOf i).toNat)
      case atStart => exact ⟨0, xs, by omega, rfl, Lib.hid ⟨hxl, HROW.out⟩, HO1, HW1⟩
      case round =>
        clear HO1 HW1
        obtain ⟨k, ys, hk, rfl, HY, HO, HW⟩ := hrel
        by_cases hgo : k < len ∧ k < len1
        · obtain ⟨hkl, hkl1⟩ := hgo
          rcases HBO.out with h0 | ⟨b, off, rfl, hb, hc⟩
          · omega
          have hcell : wr.cell? ⟨b, off + k, none⟩ = some (.bool (zs k)) := by
            rw [HW.out.cell (p := ⟨b, off + k, none⟩) hb]; exact hc k hkl1
          obtain ⟨z, hz⟩ : ∃ z, z = zs k := ⟨_, rfl⟩
          rw [← hz] at hcell
          clear hz hc
          cases z with
          | false =>
            go_wp2_with fail
            go_roundw
            case rel => exact ⟨k + 1, ys, by omega, by go_num, HY, HO, HW⟩
            case measure => simp [intOf]; omega
          | true =>
            have hown := HO.out
            rcases hown.2 with ⟨hv, h0⟩ | ⟨g, cap', cur, hv, hg, hgb, hn, hm, hs, ht⟩
            · have := HY.out.1; omega
            · have hyl := HY.out.1
              injection hv with hv1 hv2 hv3
              subst hv1 hv3
              clear hg hgb hn hm hs ht hv2
              obtain ⟨hc1, hf1, hg1, hs1⟩ := own_set (k := k) hown (by omega)
              have HO2 := Lib.hid hs1
              have HY2 : Hid ((ys.set k ⟨#[]⟩).length = len ∧ ∀ j, (Bk.rowAt (ys.set k ⟨#[]⟩) j).size ≤ 200) := Lib.hid ⟨by rw [List.length_set]; exact hyl, Bk.row_set HY.out.2⟩
              have HW2 := Lib.hid (HW.out.setCell (p := ⟨g, k, none⟩) hg1 (.string ⟨#[]⟩))
              clear hown hs1 hyl hg1
              go_wp2_with fail
              go_roundw
              case rel => exact ⟨k + 1, ys.set k ⟨#[]⟩, by omega, by go_num, HY2, HO2, HW2⟩
              case measure => simp [intOf]; omega
        · obtain ⟨ad, cp, hv, hst3, hcap3⟩ := own_strs HO.out (by have := HY.out.1; omega)
          have hyl := HY.out.1
          rw [hyl] at hv hst3 hcap3
          injection hv with hv1 hv2 hv3
          subst hv1 hv3
          have hz := Bk.sumZ_small HY.out.2 len
          have HZ : Hid (Bk.sumZ ys len ≤ 140737488355328) := Lib.hid (by omega)
          have HS3 := Lib.hid hst3
          have HC3 := Lib.hid hcap3
          clear hst3 hcap3 hz
          by_cases hkl : k < len
          · have hkl1 : ¬ k < len1 := fun h => hgo ⟨hkl, h⟩
            clear hgo
            go_wp2_with first
              | (go_at_call 55; refine (flow55_any _ _ _ ys _ HS3.out HZ.out).mono ?_; rintro e w1 ⟨rfl, hg⟩; have K1 := Lib.hid hg; clear hg)
              | (go_at_call 56; refine (rflow56_any _ _ _ ys _ (HS3.out.below K1.out) HZ.out).mono ?_; rintro e w2 ⟨rfl, hg⟩; have K2 := Lib.hid (K1.out.trans (hg.mono K1.out.size)); clear hg)
              | (go_at_call 57; with_reducible refine (block57_any _ _ _ ys _ (HS3.out.below K2.out) HZ.out).mono ?_; rintro e w3 ⟨rfl, hg⟩; have K3 := Lib.hid (K2.out.trans (hg.mono K2.out.size)); clear hg)
              | (go_at_call 58; with_reducible refine (rblock58_any _ _ _ ys _ (HS3.out.below K3.out) HZ.out).mono ?_; rintro e w4 ⟨rfl, rfl⟩)
              | (go_at_call 57; with_reducible refine (keep57_any _ _ _ ys _ (HS3.out.below K3.out) HZ.out HC3.out).mono ?_; rintro e w5 ⟨rfl, hg⟩; have K5 := Lib.hid (K3.out.trans (hg.mono K3.out.size)); clear hg)
              | (go_at_call 58; with_reducible refine (rkeep58_any _ _ _ ys _ (HS3.out.below K5.out) HZ.out).mono ?_; rintro e w6 ⟨rfl, rfl⟩)
              | (go_at_call 54; refine (awake6 _).mono ?_; rintro e w9 ⟨rfl, hg⟩; have K9 := Lib.hid (K5.out.trans (hg.mono K5.out.size)); clear hg)
            go_ret
            exact ⟨rfl, HW.out.trans (K9.out.mono HW.out.size)⟩
          · clear hgo
            go_wp2_with first
              | (go_at_call 55; refine (flow55_any _ _ _ ys _ HS3.out HZ.out).mono ?_; rintro e w1 ⟨rfl, hg⟩; have K1 := Lib.hid hg; clear hg)
              | (go_at_call 56; refine (rflow56_any _ _ _ ys _ (HS3.out.below K1.out) HZ.out).mono ?_; rintro e w2 ⟨rfl, hg⟩; have K2 := Lib.hid (K1.out.trans (hg.mono K1.out.size)); clear hg)
              | (go_at_call 57; with_reducible refine (block57_any _ _ _ ys _ (HS3.out.below K2.out) HZ.out).mono ?_; rintro e w3 ⟨rfl, hg⟩; have K3 := Lib.hid (K2.out.trans (hg.mono K2.out.size)); clear hg)
              | (go_at_call 58; with_reducible refine (rblock58_any _ _ _ ys _ (HS3.out.below K3.out) HZ.out).mono ?_; rintro e w4 ⟨rfl, rfl⟩)
              | (go_at_call 57; with_reducible refine (keep57_any _ _ _ ys _ (HS3.out.below K3.out) HZ.out HC3.out).mono ?_; rintro e w5 ⟨rfl, hg⟩; have K5 := Lib.hid (K3.out.trans (hg.mono K3.out.size)); clear hg)
              | (go_at_call 58; with_reducible refine (rkeep58_any _ _ _ ys _ (HS3.out.below K5.out) HZ.out).mono ?_; rintro e w6 ⟨rfl, rfl⟩)
              | (go_at_call 54; refine (awake6 _).mono ?_; rintro e w9 ⟨rfl, hg⟩; have K9 := Lib.hid (K5.out.trans (hg.mono K5.out.size)); clear hg)
            go_ret
            exact ⟨rfl, HW.out.trans (K9.out.mono HW.out.size)⟩
  · go_enter Try.func13, Try.ntmps13
    go_wp2_with (go_at_call 54; refine (awake6 _).mono ?_; rintro e w' ⟨rfl, hg⟩)
    go_ret
    exact ⟨rfl, hg⟩
end Go.Proofs.Ytmmhpejnfkienaa
