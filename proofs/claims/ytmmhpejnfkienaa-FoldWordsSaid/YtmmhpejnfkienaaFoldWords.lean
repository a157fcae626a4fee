/- The law FoldWords of chapter 6: its walk. -/
import Derived.Test.YtmmhpejnfkienaaWords
namespace Go.Proofs.Ytmmhpejnfkienaa
open Go Go.RowKit Go.PlainAid
set_option linter.unusedVariables false
namespace Bk
/-- What one round leaves: rows of at most 3 bytes each, so many at most; a text so long at most. -/
def Few (ys : List ByteArray) (t : ByteArray) (k : Nat) : Prop := (∀ j, (rowAt ys j).size ≤ 3) ∧ ys.length ≤ 4 * k ∧ t.size ≤ 8 * k
theorem few_nil : Few [] ByteArray.empty 0 := ⟨fun j => by unfold rowAt; exact Nat.zero_le _, Nat.le_refl _, Nat.le_refl _⟩
end Bk
set_option maxRecDepth 20000 in
set_option maxHeartbeats 800000 in
theorem foldWords_walk (a0 : Option Addr) (len cap : Nat) (zs : List Int) (a1 : Option Addr) (len1 cap1 : Nat) (gs : List Int) (w : World) (h0 : IntsAt w a0 len zs) (h1 : IntsAt w a1 len1 gs) :
    Calls Try.prog 14 #[.slice a0 len cap, .slice a1 len1 cap1] w fun e w' => e = .returned (.bool true) ∧ Below w.heap.size w w' := by
  have hlm : len ≤ 9223372036854775807 := h0.1
  have hlm1 : len1 ≤ 9223372036854775807 := h1.1
  have H0 := Lib.hid h0.2
  have H1 := Lib.hid h1.2
  clear h0 h1
  have q1 : ({ data := #[32] } : ByteArray).size = 1 := rfl
  by_cases hok : 1 ≤ len ∧ len ≤ 10
  · obtain ⟨hl1, hl10⟩ := hok
    go_enter Try.func14, Try.ntmps14
    go_wp2_with fail
    go_loopw [5, 6, 7] (fun v t i wr => ∃ (k : Nat) (ys : List ByteArray) (want : ByteArray), k < len ∧ i = .int .i64 k ∧ t = .string want ∧ Hid (Bk.Top ys want) ∧ Hid (Bk.Few ys want k) ∧ Hid (Own w.heap.size v ys wr) ∧ Hid (Below w.heap.size w wr)) (fun _ _ i _ => len - (intOf i).toNat)
    case atStart => exact ⟨0, [], ByteArray.empty, by omega, rfl, rfl, Lib.hid (.inl ⟨rfl, rfl⟩), Lib.hid Bk.few_nil, Lib.hid (own_nil _ _), Lib.hid (Below.refl _ _)⟩
    case round =>
      obtain ⟨k, ys, want, hkl, rfl, rfl, HT, HF, HO, HW⟩ := hrel
      rcases H0.out with h0 | ⟨b, off, rfl, hb, hc⟩
      · omega
      have hcell : wr.cell? ⟨b, off + k, none⟩ = some (.int .i64 (zs.getD k 0)) := by
        rw [HW.out.cell (p := ⟨b, off + k, none⟩) hb]; exact hc k hkl
      obtain ⟨z, hz⟩ : ∃ z, z = zs.getD k 0 := ⟨_, rfl⟩
      rw [← hz] at hcell
      clear hz hc
      obtain ⟨hw3, hw1, hww⟩ := Bk.wordS_is z
      obtain ⟨wd, hwd⟩ : ∃ wd, wd = Bk.wordS z := ⟨_, rfl⟩
      have HWD := Lib.hid hwd
      rw [← hwd] at hw3 hw1 hww
      clear hwd
      have HWW := Lib.hid hww
      have hyl : ys.length ≤ 40 := by have := HF.out.2.1; omega
      have hwl : want.size ≤ 80 := by have := HF.out.2.2; omega
      have z1 := Bk.size_app want wd
      clear hww
      by_cases hlast : k + 1 = len
      · have hE := Bk.top_end HT.out (by omega : 0 < wd.size) HWW.out
        have HE := Lib.hid hE
        clear hE
        subst hlast
        go_wp2_with first
          | (go_at_call 59; refine (wordOf_any _ _).mono ?_; rintro e w1 ⟨rfl, hg⟩; rw [← HWD.out]; have K1 := Lib.hid (HW.out.trans (hg.mono HW.out.size)); have O1 := Lib.hid (HO.out.below hg); clear hg)
          | (at_builtin; refine app_one (w0 := w) rfl (.tmp 31) (.tmp 33) rfl _ _ wd rfl rfl O1 (by omega) K1 ?_; intro v2 w2 O2 K2)
        obtain ⟨ad, cp, hv, hst, hcap⟩ := own_strs O2.out (by rw [List.length_append, List.length_singleton]; omega)
        subst hv
        have hln : (ys ++ [wd]).length = ys.length + 1 := by rw [List.length_append, List.length_singleton]
        have hz := Bk.sumZ_small (Bk.row_app HF.out.1 hw3) (ys.length + 1)
        have HZ : Hid (Bk.sumZ (ys ++ [wd]) (ys.length + 1) ≤ 140737488355328) := Lib.hid (by omega)
        rw [hln] at hst
        have HST := Lib.hid hst
        rw [hln]
        clear hst hz hcap hln
        go_wp2_with first
          | (go_at_call 55; refine (flow55_any _ _ _ (ys ++ [wd]) _ HST.out HZ.out).mono ?_; rintro e w3 ⟨rfl, hg⟩; rw [HE.out.1]; have K3 := Lib.hid hg; clear hg)
          | (go_at_call 57; refine (block57_any _ _ _ (ys ++ [wd]) _ (HST.out.below K3.out) HZ.out).mono ?_; rintro e w4 ⟨rfl, hg⟩; rw [HE.out.2]; have K4 := Lib.hid (K3.out.trans (hg.mono K3.out.size)); clear hg)
          | (go_at_call 54; refine (awake6 _).mono ?_; rintro e w5 ⟨rfl, hg⟩; have K5 := Lib.hid (K4.out.trans (hg.mono K4.out.size)); clear hg)
        go_ret
        exact ⟨rfl, K2.out.trans (K5.out.mono K2.out.size)⟩
      · have hM := Bk.top_word HT.out (by omega : 0 < wd.size) HWW.out
        have HM := Lib.hid hM
        clear hM
        have hke : ¬ (k : Int) = (len : Int) - 1 := by omega
        have HR := Lib.hid (Bk.row_app HF.out.1 hw3)
        obtain ⟨gz, hgz⟩ : ∃ gz, gz = gs.getD k 0 := ⟨_, rfl⟩
        have hgap : ∃ n : Nat, n < 4 ∧ ((k < len1 ∧ n = Bk.lowN gz 4) ∨ (¬ k < len1 ∧ n = 0)) := by
          by_cases h : k < len1
          · exact ⟨_, by have := Bk.lowN_lt (x := gz) (n := 4) (by omega); omega, .inl ⟨h, rfl⟩⟩
          · exact ⟨0, by omega, .inr ⟨h, rfl⟩⟩
        obtain ⟨n, hn4, hgap⟩ := hgap
        have hin : ∀ (K : Prop), K → K := fun _ h => h
        rcases hgap with ⟨hk1, hnq⟩ | ⟨hk1, rfl⟩
        · have HNQ := Lib.hid hnq
          clear hnq
          rcases H1.out with h0 | ⟨b1, off1, rfl, hb1, hc1⟩
          · omega
          have hcell1 : wr.cell? ⟨b1, off1 + k, none⟩ = some (.int .i64 gz) := by
            rw [HW.out.cell (p := ⟨b1, off1 + k, none⟩) hb1, hgz]; exact hc1 k hk1
          have HC1 := Lib.hid hcell1
          clear hc1 hcell1 hin hgz
          go_wp2_with first
            | (go_at_call 59; refine (wordOf_any _ _).mono ?_; rintro e w1 ⟨rfl, hg⟩; rw [← HWD.out]; have K1 := Lib.hid (HW.out.trans (hg.mono HW.out.size)); have O1 := Lib.hid (HO.out.below hg); clear hg)
            | (at_builtin; refine app_one (w0 := w) rfl (.tmp 31) (.tmp 33) rfl _ _ wd rfl rfl O1 (by omega) K1 ?_; intro v2 w2 O2 K2; have hcell2 : w2.cell? ⟨b1, off1 + k, none⟩ = some (.int .i64 gz) := ((K2.out.cell (p := ⟨b1, off1 + k, none⟩) hb1).trans (HW.out.cell (p := ⟨b1, off1 + k, none⟩) hb1).symm).trans HC1.out)
            | (go_at_call 32; refine (low_any _ _ _ (by omega) (by omega)).mono ?_; rintro e w' ⟨rfl, rfl⟩; rw [← HNQ.out])
          go_loopw [5, 10] (fun v i wq => ∃ (j : Nat) (xs : List ByteArray), j ≤ n ∧ i = .int .i64 j ∧ Hid (Bk.Mid xs (want ++ wd) j) ∧ Hid (∀ p, (Bk.rowAt xs p).size ≤ 3) ∧ xs.length = ys.length + 1 + j ∧ Hid (Own w.heap.size v xs wq) ∧ Hid (Below w.heap.size w wq)) (fun _ i _ => n - (intOf i).toNat)
          case atStart => exact ⟨0, ys ++ [wd], by omega, rfl, HM, HR, by simp, O2, K2⟩
          case round =>
            obtain ⟨j, xs, hj, rfl, HMM, HRR, hxl, HO3, HW3⟩ := hrel
            by_cases hjn : j < n
            · go_wp2_with (at_builtin; refine app_one (w0 := w) rfl (.tmp 57) (.tmp 58) rfl _ _ ⟨#[]⟩ rfl rfl HO3 (by omega) HW3 ?_; intro v4 w4 O4 K4)
              go_roundw
              case rel => exact ⟨j + 1, xs ++ [⟨#[]⟩], by omega, by go_num, Lib.hid (Bk.mid_blank HMM.out), Lib.hid (Bk.row_app HRR.out (Nat.zero_le _)), by simp; omega, O4, K4⟩
              case measure => simp [intOf]; omega
            · obtain rfl : j = n := by omega
              have z4 := Bk.manyS_size 10 j
              have z6 := Bk.gapS_size j
              have z7 := Bk.size_app (want ++ wd) (Bk.gapS j)
              by_cases hj0 : j = 0
              · subst hj0
                have z2 := Bk.size_app (want ++ wd) ⟨#[32]⟩
                have z3 := Bk.size_app (want ++ wd ++ ⟨#[32]⟩) (Bk.manyS 10 0)
                have HG : Hid (want ++ wd ++ ⟨#[32]⟩ ++ Bk.manyS 10 0 = want ++ wd ++ Bk.gapS 0) := Lib.hid (by
                  show want ++ wd ++ ⟨#[32]⟩ ++ ByteArray.empty = want ++ wd ++ ⟨#[32]⟩
                  rw [ByteArray.append_empty])
                have HF2 : Hid (Bk.Few xs (want ++ wd ++ Bk.gapS 0) (k + 1)) := Lib.hid ⟨HRR.out, by have := HF.out.2.1; omega, by have := HF.out.2.2; omega⟩
                go_wp2_with (go_at_call 60; refine (feeds_nat 0 _ (by omega)).mono ?_; rintro e w' ⟨rfl, rfl⟩)
                go_roundw
                case rel => exact ⟨k + 1, xs, _, by omega, by go_num, by rw [HG.out], Lib.hid (.inr ⟨_, _, HMM.out, rfl⟩), HF2, HO3, HW3⟩
                case measure => simp [intOf]; omega
              · have z2 := Bk.size_app (want ++ wd) (Bk.manyS 10 j)
                have HG : Hid (want ++ wd ++ Bk.manyS 10 j = want ++ wd ++ Bk.gapS j) := Lib.hid (by unfold Bk.gapS; rw [if_neg hj0])
                have HF2 : Hid (Bk.Few xs (want ++ wd ++ Bk.gapS j) (k + 1)) := Lib.hid ⟨HRR.out, by have := HF.out.2.1; omega, by have := HF.out.2.2; omega⟩
                go_wp2_with (go_at_call 60; with_reducible refine (feeds_nat j _ (by omega)).mono ?_; rintro e w' ⟨rfl, rfl⟩)
                go_roundw
                case rel => exact ⟨k + 1, xs, _, by omega, by go_num, by rw [HG.out], Lib.hid (.inr ⟨_, _, HMM.out, rfl⟩), HF2, HO3, HW3⟩
                case measure => simp [intOf]; omega
        · clear hin hgz
          go_wp2_with first
            | (go_at_call 59; refine (wordOf_any _ _).mono ?_; rintro e w1 ⟨rfl, hg⟩; rw [← HWD.out]; have K1 := Lib.hid (HW.out.trans (hg.mono HW.out.size)); have O1 := Lib.hid (HO.out.below hg); clear hg)
            | (at_builtin; refine app_one (w0 := w) rfl (.tmp 31) (.tmp 33) rfl _ _ wd rfl rfl O1 (by omega) K1 ?_; intro v2 w2 O2 K2)
          have z2 := Bk.size_app (want ++ wd) ⟨#[32]⟩
          have z3 := Bk.size_app (want ++ wd ++ ⟨#[32]⟩) (Bk.manyS 10 0)
          have z4 := Bk.manyS_size 10 0
          have z6 := Bk.gapS_size 0
          have z7 := Bk.size_app (want ++ wd) (Bk.gapS 0)
          have HG : Hid (want ++ wd ++ ⟨#[32]⟩ ++ Bk.manyS 10 0 = want ++ wd ++ Bk.gapS 0) := Lib.hid (by
            show want ++ wd ++ ⟨#[32]⟩ ++ ByteArray.empty = want ++ wd ++ ⟨#[32]⟩
            rw [ByteArray.append_empty])
          have hyl2 : (ys ++ [wd]).length = ys.length + 1 := by simp
          have HF2 : Hid (Bk.Few (ys ++ [wd]) (want ++ wd ++ Bk.gapS 0) (k + 1)) := Lib.hid ⟨HR.out, by have := HF.out.2.1; omega, by have := HF.out.2.2; omega⟩
          go_loopw [5, 10] (fun v i wq => v = v2 ∧ i = .int .i64 0 ∧ wq = w2) (fun _ i _ => 0)
          case atStart => exact ⟨rfl, rfl, rfl⟩
          case round =>
            obtain ⟨rfl, rfl, rfl⟩ := hrel
            go_wp2_with (go_at_call 60; refine (feeds_nat 0 _ (by omega)).mono ?_; rintro e w' ⟨rfl, rfl⟩)
            go_roundw
            case rel => exact ⟨k + 1, ys ++ [wd], _, by omega, by go_num, by rw [HG.out], Lib.hid (.inr ⟨_, _, HM.out, rfl⟩), HF2, O2, K2⟩
            case measure => simp [intOf]; omega
  · by_cases hl1 : len < 1
    · go_enter Try.func14, Try.ntmps14
      go_wp2_with (go_at_call 54; refine (awake6 _).mono ?_; rintro e w' ⟨rfl, hg⟩)
      go_ret
      exact ⟨rfl, hg⟩
    · have hl2 : 10 < len := by omega
      clear hok
      go_enter Try.func14, Try.ntmps14
      go_wp2_with (go_at_call 54; refine (awake6 _).mono ?_; rintro e w' ⟨rfl, hg⟩)
      go_ret
      exact ⟨rfl, hg⟩
end Go.Proofs.Ytmmhpejnfkienaa
