/- The law PlaiWords of chapter 11: its walk (printed by gen_words11.py). -/
import Derived.Test.YtmmhpejnfkienaaRead2
import Derived.Deep.RegionHeld3
namespace Go.Proofs.Ytmmhpejnfkienaa
open Go Go.RowKit Go.PlainAid
set_option linter.unusedVariables false
namespace Bk
theorem row_text (S : ByteArray) (g c : Nat) (w : ByteArray) : S ++ ⟨#[10]⟩ ++ manyS 10 g ++ manyS 32 c ++ w = S ++ rowS g c w := by
  unfold rowS; simp only [ByteArray.append_assoc]
theorem out_text {fl : Bool} {S W : ByteArray} {o : Bool} (h : Wd fl S W o) {w : ByteArray} (hw : OkW w) {g c : Nat} (hc : c = 0) :
    readS (S ++ ⟨#[10]⟩ ++ manyS 10 g ++ manyS 32 c ++ w ++ ⟨#[10, 32, 32, 32, 122]⟩) 0 0 fl = (W, S.size, o, 0) := by
  subst hc
  rw [row_text]
  exact wd_out h hw (.inr (by decide))
theorem wd_text {fl : Bool} {S W : ByteArray} {o : Bool} (h : Wd fl S W o) {w G : ByteArray} (hw : OkW w) {g c : Nat} (hc : 0 < c) (hG : gapS g = G) :
    Wd fl (S ++ ⟨#[10]⟩ ++ manyS 10 g ++ manyS 32 c ++ w) (W ++ G ++ w) false := by
  subst hG
  rw [row_text]
  exact wd_row h hw hc
end Bk
set_option maxRecDepth 20000 in
set_option maxHeartbeats 60000000 in
theorem plaiWords_walk (a0 : Option Addr) (len0 cap0 : Nat) (z0 : List Int) (a1 : Option Addr) (len1 cap1 : Nat) (z1 : List Int) (a2 : Option Addr) (len2 cap2 : Nat) (z2 : List Int) (flow : Bool) (w : World) (h0 : IntsAt w a0 len0 z0) (h1 : IntsAt w a1 len1 z1) (h2 : IntsAt w a2 len2 z2) :
    Calls Try.prog 18 #[.slice a0 len0 cap0, .slice a1 len1 cap1, .slice a2 len2 cap2, .bool flow] w fun e w' => e = .returned (.bool true) ∧ Below w.heap.size w w' := by
  obtain ⟨hm0, h0⟩ := h0
  obtain ⟨hm1, h1⟩ := h1
  obtain ⟨hm2, h2⟩ := h2
  have H0 := Lib.hid h0
  have H1 := Lib.hid h1
  have H2 := Lib.hid h2
  clear h0 h1 h2
  by_cases hok : 1 ≤ len0 ∧ len0 ≤ 8
  · obtain ⟨hl1, hl8⟩ := hok
    rcases H0.out with h0 | ⟨b0, off0, rfl, hb0, hc0⟩
    · omega
    have hcA := hc0 0 (by omega)
    rw [Nat.add_zero] at hcA
    obtain ⟨zA, hzA⟩ : ∃ zA, zA = z0.getD 0 0 := ⟨_, rfl⟩
    rw [← hzA] at hcA
    clear hzA
    have HC0 := Lib.hid hc0
    have HB0 := Lib.hid hb0
    clear hc0 hb0
    obtain ⟨wA, hwA⟩ : ∃ wA, wA = Bk.wordS zA := ⟨_, rfl⟩
    have hAz := (Bk.wordS_is zA).1
    have hAo := Bk.okW_word zA
    rw [← hwA] at hAz hAo
    have HWA := Lib.hid hwA
    have HAO := Lib.hid hAo
    have HCA := Lib.hid hcA
    clear hwA hAo
    have hI0 : 0 < len0 := by omega
    go_enter Try.func18, Try.ntmps18
    go_wp2_with fail
    go_region_held3 (fun w' => w'.cell? ⟨b0, off0, none⟩ = some (.int .i64 zA) ∧ Hid (Below w.heap.size w w'))
      (first
        | exact ⟨HCA.out, Lib.hid (Below.drew (Below.refl w.heap.size w))⟩
        | (go_split_ands; exact ⟨(KK.out.cell (p := ⟨b0, off0, none⟩) HB0.out).trans HCA.out, KK⟩))
      (first
        | (go_at_call 59; refine (wordOf_any zA _).mono ?_; rintro e w2 ⟨rfl, hg⟩; rw [← HWA.out]; go_split_ands; have KK : Hid (Below w.heap.size w w2) := Lib.hid (Below.trans (show Below w.heap.size w _ from (‹Hid (Below w.heap.size w _)›).out) (hg.mono (Below.size (‹Hid (Below w.heap.size w _)›).out))); clear hg))
    clear hcA
    go_wp2_with fail
    go_loopw [9, 10, 11, 12] (fun sv wv ev iv wr => ∃ (k : Nat) (S W : ByteArray) (o : Bool), 1 ≤ k ∧ k ≤ len0 ∧ iv = .int .i64 k ∧ sv = .string S ∧ wv = .string W ∧ ev = .int .i64 S.size ∧ S.size ≤ 10 * k ∧ W.size ≤ 10 * k ∧ Hid (Bk.Wd flow S W o) ∧ Hid ((o = true ∧ S.size = wA.size) ∨ (o = false ∧ wA.size < S.size)) ∧ Hid (Below w.heap.size w wr)) (fun _ _ _ iv _ => len0 - (intOf iv).toNat)
    case atStart => exact ⟨1, wA, wA, true, by omega, by omega, rfl, rfl, rfl, rfl, by omega, by omega, Lib.hid (Bk.wd_one HAO.out), Lib.hid (.inl ⟨rfl, rfl⟩), KK⟩
    case round =>
      obtain ⟨k, S, W, o, hk1, hkl, rfl, rfl, rfl, rfl, hSz, hWz, HWd, HOo, HW⟩ := hrel
      by_cases hk : k < len0
      · have hck : wr.cell? ⟨b0, off0 + k, none⟩ = some (.int .i64 (z0.getD k 0)) := by
          rw [HW.out.cell (p := ⟨b0, off0 + k, none⟩) HB0.out]; exact HC0.out k hk
        obtain ⟨zB, hzB⟩ : ∃ zB, zB = z0.getD k 0 := ⟨_, rfl⟩
        rw [← hzB] at hck
        clear hzB
        obtain ⟨wB, hwB⟩ : ∃ wB, wB = Bk.wordS zB := ⟨_, rfl⟩
        have hBz := (Bk.wordS_is zB).1
        have hBo := Bk.okW_word zB
        rw [← hwB] at hBz hBo
        have HWB := Lib.hid hwB
        have HBO := Lib.hid hBo
        clear hwB hBo
        by_cases hi : k < len1
        · by_cases hgp : k < len2
          · rcases H1.out with h1 | ⟨b1, off1, rfl, hb1, hc1⟩
            · omega
            have hci : wr.cell? ⟨b1, off1 + k, none⟩ = some (.int .i64 (z1.getD k 0)) := by
              rw [HW.out.cell (p := ⟨b1, off1 + k, none⟩) hb1]; exact hc1 k hi
            have HB1 := Lib.hid hb1
            clear hc1 hb1
            obtain ⟨zC, hzC⟩ : ∃ zC, zC = z1.getD k 0 := ⟨_, rfl⟩
            rw [← hzC] at hci
            clear hzC
            have hcl := Bk.lowN_lt (x := zC) (n := 4) (by omega)
            obtain ⟨c, hcq⟩ : ∃ c, c = Bk.lowN zC 4 := ⟨_, rfl⟩
            rw [← hcq] at hcl
            replace hcl : c ≤ 3 := by omega
            have HC := Lib.hid hcq
            clear hcq
            rcases H2.out with h2 | ⟨b2, off2, rfl, hb2, hc2⟩
            · omega
            have hcg : wr.cell? ⟨b2, off2 + k, none⟩ = some (.int .i64 (z2.getD k 0)) := by
              rw [HW.out.cell (p := ⟨b2, off2 + k, none⟩) hb2]; exact hc2 k hgp
            have HB2 := Lib.hid hb2
            clear hc2 hb2
            obtain ⟨zD, hzD⟩ : ∃ zD, zD = z2.getD k 0 := ⟨_, rfl⟩
            rw [← hzD] at hcg
            clear hzD
            have hgl := Bk.lowN_lt (x := zD) (n := 3) (by omega)
            obtain ⟨g, hgq⟩ : ∃ g, g = Bk.lowN zD 3 := ⟨_, rfl⟩
            rw [← hgq] at hgl
            replace hgl : g ≤ 2 := by omega
            have HG := Lib.hid hgq
            clear hgq
            have hm1z : (Bk.manyS 10 g).size ≤ 3 := by rw [Bk.manyS_size]; omega
            have hm2z : (Bk.manyS 32 c).size ≤ 3 := by rw [Bk.manyS_size]; omega
            have q1 : ({ data := #[10] } : ByteArray).size = 1 := rfl
            have q2 : ({ data := #[32] } : ByteArray).size = 1 := rfl
            have q5 : ({ data := #[10, 32, 32, 32, 122] } : ByteArray).size = 5 := rfl
            by_cases hc0 : c = 0
            · have HRD := Lib.hid (Bk.out_text HWd.out HBO.out (g := g) hc0)
              have HSZ : Hid ((S ++ ⟨#[10]⟩ ++ Bk.manyS 10 g ++ Bk.manyS 32 c ++ wB ++ ⟨#[10, 32, 32, 32, 122]⟩).size ≤ 900000) := Lib.hid (by rw [Bk.size_app, Bk.size_app, Bk.size_app, Bk.size_app, Bk.size_app]; omega)
              have bC : ((c : Int) == 0) = true := by simp [hc0]
              have HC00 := Lib.hid hc0
              clear hc0
              rcases HOo.out with ⟨rfl, hOo⟩ | ⟨rfl, hOo⟩
              · have bO : ((S.size : Int) == (wA.size : Int)) = true := by simp [hOo]
                clear hOo
                go_wp2_with first
                  | (go_at_call 32; with_reducible refine (low_any zC 4 _ (by omega) (by omega)).mono ?_; rintro e1 w1 ⟨rfl, rfl⟩; rw [← HC.out])
                  | (go_at_call 32; with_reducible refine (low_any zD 3 _ (by omega) (by omega)).mono ?_; rintro e1 w1 ⟨rfl, rfl⟩; rw [← HG.out])
                  | (go_at_call 59; with_reducible refine (wordOf_any zB _).mono ?_; rintro e1 w1 ⟨rfl, hg⟩; rw [← HWB.out]; replace HW := Lib.hid (HW.out.trans (hg.mono HW.out.size)); clear hg)
                  | (go_at_call 60; refine (feeds_any _ _ (by omega)).mono ?_; rintro e1 w1 ⟨rfl, rfl⟩; rw [Int.toNat_natCast])
                  | (go_at_call 49; refine (blanks_any _ _ (by omega)).mono ?_; rintro e1 w1 ⟨rfl, rfl⟩; rw [Int.toNat_natCast])
                  | (go_at_call 63; with_reducible refine (read63_zero (S ++ ⟨#[10]⟩ ++ Bk.manyS 10 g ++ Bk.manyS 32 c ++ wB ++ ⟨#[10, 32, 32, 32, 122]⟩) 0 flow _ HSZ.out).mono ?_; rintro e3 w3 ⟨rfl, hg⟩; rw [HRD.out]; replace HW := Lib.hid (HW.out.trans (hg.mono HW.out.size)); have hcE := (HW.out.cell (p := ⟨b0, off0, none⟩) HB0.out).trans HCA.out; clear hg)
                  | (go_at_call 59; with_reducible refine (wordOf_any zA _).mono ?_; rintro e4 w4 ⟨rfl, hg⟩; rw [← HWA.out]; replace HW := Lib.hid (HW.out.trans (hg.mono HW.out.size)); clear hg)
                  | (go_at_call 61; refine (awake11 _).mono ?_; rintro e5 w5 ⟨rfl, hg⟩; replace HW := Lib.hid (HW.out.trans (hg.mono HW.out.size)); clear hg)
                go_ret
                exact ⟨ret_bool (by simp), HW.out⟩
              · have bO : ((S.size : Int) == (wA.size : Int)) = false := by simp; omega
                clear hOo
                go_wp2_with first
                  | (go_at_call 32; with_reducible refine (low_any zC 4 _ (by omega) (by omega)).mono ?_; rintro e1 w1 ⟨rfl, rfl⟩; rw [← HC.out])
                  | (go_at_call 32; with_reducible refine (low_any zD 3 _ (by omega) (by omega)).mono ?_; rintro e1 w1 ⟨rfl, rfl⟩; rw [← HG.out])
                  | (go_at_call 59; with_reducible refine (wordOf_any zB _).mono ?_; rintro e1 w1 ⟨rfl, hg⟩; rw [← HWB.out]; replace HW := Lib.hid (HW.out.trans (hg.mono HW.out.size)); clear hg)
                  | (go_at_call 60; refine (feeds_any _ _ (by omega)).mono ?_; rintro e1 w1 ⟨rfl, rfl⟩; rw [Int.toNat_natCast])
                  | (go_at_call 49; refine (blanks_any _ _ (by omega)).mono ?_; rintro e1 w1 ⟨rfl, rfl⟩; rw [Int.toNat_natCast])
                  | (go_at_call 63; with_reducible refine (read63_zero (S ++ ⟨#[10]⟩ ++ Bk.manyS 10 g ++ Bk.manyS 32 c ++ wB ++ ⟨#[10, 32, 32, 32, 122]⟩) 0 flow _ HSZ.out).mono ?_; rintro e3 w3 ⟨rfl, hg⟩; rw [HRD.out]; replace HW := Lib.hid (HW.out.trans (hg.mono HW.out.size)); have hcE := (HW.out.cell (p := ⟨b0, off0, none⟩) HB0.out).trans HCA.out; clear hg)
                  | (go_at_call 59; with_reducible refine (wordOf_any zA _).mono ?_; rintro e4 w4 ⟨rfl, hg⟩; rw [← HWA.out]; replace HW := Lib.hid (HW.out.trans (hg.mono HW.out.size)); clear hg)
                  | (go_at_call 61; refine (awake11 _).mono ?_; rintro e5 w5 ⟨rfl, hg⟩; replace HW := Lib.hid (HW.out.trans (hg.mono HW.out.size)); clear hg)
                go_ret
                exact ⟨ret_bool (by simp), HW.out⟩
            · have bC : ((c : Int) == 0) = false := by simpa using hc0
              by_cases hg0 : g = 0
              · have bG : ¬ 0 < g := by omega
                have HG0 := Lib.hid hg0
                clear hg0
                have HWd2 := Lib.hid (Bk.wd_text HWd.out HBO.out (g := g) (c := c) (by omega) (show Bk.gapS g = ⟨#[32]⟩ from by unfold Bk.gapS; first | rw [if_pos HG0.out] | rw [if_neg (by omega)] | rfl))
                have hz2 := Bk.rowS_size g c wB
                have hz3 : (S ++ ⟨#[10]⟩ ++ Bk.manyS 10 g ++ Bk.manyS 32 c ++ wB).size = S.size + (Bk.rowS g c wB).size := by rw [Bk.row_text, Bk.size_app]
                have hz4 : (W ++ ⟨#[32]⟩ ++ wB).size ≤ W.size + 6 := by rw [Bk.size_app, Bk.size_app]; omega
                have HSN : Hid ((S ++ ⟨#[10]⟩ ++ Bk.manyS 10 g ++ Bk.manyS 32 c ++ wB).size = S.size + (1 + g + c + wB.size)) := Lib.hid (by omega)
                have HSL : Hid ((S ++ ⟨#[10]⟩ ++ Bk.manyS 10 g ++ Bk.manyS 32 c ++ wB).size ≤ 10 * (k + 1) ∧ (W ++ ⟨#[32]⟩ ++ wB).size ≤ 10 * (k + 1) ∧ wA.size < (S ++ ⟨#[10]⟩ ++ Bk.manyS 10 g ++ Bk.manyS 32 c ++ wB).size) := Lib.hid (by
                  have := HOo.out
                  refine ⟨by omega, by omega, ?_⟩
                  rcases this with h | h <;> omega)
                clear hz2 hz3 hz4
                go_wp2_with first
                  | (go_at_call 32; with_reducible refine (low_any zC 4 _ (by omega) (by omega)).mono ?_; rintro e1 w1 ⟨rfl, rfl⟩; rw [← HC.out])
                  | (go_at_call 32; with_reducible refine (low_any zD 3 _ (by omega) (by omega)).mono ?_; rintro e1 w1 ⟨rfl, rfl⟩; rw [← HG.out])
                  | (go_at_call 59; with_reducible refine (wordOf_any zB _).mono ?_; rintro e1 w1 ⟨rfl, hg⟩; rw [← HWB.out]; replace HW := Lib.hid (HW.out.trans (hg.mono HW.out.size)); clear hg)
                  | (go_at_call 60; refine (feeds_any _ _ (by omega)).mono ?_; rintro e1 w1 ⟨rfl, rfl⟩; rw [Int.toNat_natCast])
                  | (go_at_call 49; refine (blanks_any _ _ (by omega)).mono ?_; rintro e1 w1 ⟨rfl, rfl⟩; rw [Int.toNat_natCast])
                go_roundw
                case rel => exact ⟨k + 1, (S ++ ⟨#[10]⟩ ++ Bk.manyS 10 g ++ Bk.manyS 32 c ++ wB), _, false, by omega, by omega, by go_num, rfl, rfl, by simp; rfl, HSL.out.1, HSL.out.2.1, HWd2, Lib.hid (.inr ⟨rfl, HSL.out.2.2⟩), HW⟩
                case measure => simp [intOf]; omega
              · have bG : 0 < g := by omega
                have HWd2 := Lib.hid (Bk.wd_text HWd.out HBO.out (g := g) (c := c) (by omega) (show Bk.gapS g = Bk.manyS 10 g from by unfold Bk.gapS; first | rw [if_pos (by omega)] | rw [if_neg (by omega)] | rfl))
                have hz2 := Bk.rowS_size g c wB
                have hz3 : (S ++ ⟨#[10]⟩ ++ Bk.manyS 10 g ++ Bk.manyS 32 c ++ wB).size = S.size + (Bk.rowS g c wB).size := by rw [Bk.row_text, Bk.size_app]
                have hz4 : (W ++ Bk.manyS 10 g ++ wB).size ≤ W.size + 6 := by rw [Bk.size_app, Bk.size_app]; omega
                have HSN : Hid ((S ++ ⟨#[10]⟩ ++ Bk.manyS 10 g ++ Bk.manyS 32 c ++ wB).size = S.size + (1 + g + c + wB.size)) := Lib.hid (by omega)
                have HSL : Hid ((S ++ ⟨#[10]⟩ ++ Bk.manyS 10 g ++ Bk.manyS 32 c ++ wB).size ≤ 10 * (k + 1) ∧ (W ++ Bk.manyS 10 g ++ wB).size ≤ 10 * (k + 1) ∧ wA.size < (S ++ ⟨#[10]⟩ ++ Bk.manyS 10 g ++ Bk.manyS 32 c ++ wB).size) := Lib.hid (by
                  have := HOo.out
                  refine ⟨by omega, by omega, ?_⟩
                  rcases this with h | h <;> omega)
                clear hz2 hz3 hz4
                go_wp2_with first
                  | (go_at_call 32; with_reducible refine (low_any zC 4 _ (by omega) (by omega)).mono ?_; rintro e1 w1 ⟨rfl, rfl⟩; rw [← HC.out])
                  | (go_at_call 32; with_reducible refine (low_any zD 3 _ (by omega) (by omega)).mono ?_; rintro e1 w1 ⟨rfl, rfl⟩; rw [← HG.out])
                  | (go_at_call 59; with_reducible refine (wordOf_any zB _).mono ?_; rintro e1 w1 ⟨rfl, hg⟩; rw [← HWB.out]; replace HW := Lib.hid (HW.out.trans (hg.mono HW.out.size)); clear hg)
                  | (go_at_call 60; refine (feeds_any _ _ (by omega)).mono ?_; rintro e1 w1 ⟨rfl, rfl⟩; rw [Int.toNat_natCast])
                  | (go_at_call 49; refine (blanks_any _ _ (by omega)).mono ?_; rintro e1 w1 ⟨rfl, rfl⟩; rw [Int.toNat_natCast])
                go_roundw
                case rel => exact ⟨k + 1, (S ++ ⟨#[10]⟩ ++ Bk.manyS 10 g ++ Bk.manyS 32 c ++ wB), _, false, by omega, by omega, by go_num, rfl, rfl, by simp; rfl, HSL.out.1, HSL.out.2.1, HWd2, Lib.hid (.inr ⟨rfl, HSL.out.2.2⟩), HW⟩
                case measure => simp [intOf]; omega
          · rcases H1.out with h1 | ⟨b1, off1, rfl, hb1, hc1⟩
            · omega
            have hci : wr.cell? ⟨b1, off1 + k, none⟩ = some (.int .i64 (z1.getD k 0)) := by
              rw [HW.out.cell (p := ⟨b1, off1 + k, none⟩) hb1]; exact hc1 k hi
            have HB1 := Lib.hid hb1
            clear hc1 hb1
            obtain ⟨zC, hzC⟩ : ∃ zC, zC = z1.getD k 0 := ⟨_, rfl⟩
            rw [← hzC] at hci
            clear hzC
            have hcl := Bk.lowN_lt (x := zC) (n := 4) (by omega)
            obtain ⟨c, hcq⟩ : ∃ c, c = Bk.lowN zC 4 := ⟨_, rfl⟩
            rw [← hcq] at hcl
            replace hcl : c ≤ 3 := by omega
            have HC := Lib.hid hcq
            clear hcq
            obtain ⟨g, hgq⟩ : ∃ g, g = (0 : Int).toNat := ⟨_, rfl⟩
            have hgl : g ≤ 2 := by omega
            have hg0 : g = 0 := by omega
            have HG := Lib.hid hgq
            have HG0 := Lib.hid hg0
            clear hgq hg0
            have hm1z : (Bk.manyS 10 g).size ≤ 3 := by rw [Bk.manyS_size]; omega
            have hm2z : (Bk.manyS 32 c).size ≤ 3 := by rw [Bk.manyS_size]; omega
            have q1 : ({ data := #[10] } : ByteArray).size = 1 := rfl
            have q2 : ({ data := #[32] } : ByteArray).size = 1 := rfl
            have q5 : ({ data := #[10, 32, 32, 32, 122] } : ByteArray).size = 5 := rfl
            by_cases hc0 : c = 0
            · have HRD := Lib.hid (Bk.out_text HWd.out HBO.out (g := g) hc0)
              have HSZ : Hid ((S ++ ⟨#[10]⟩ ++ Bk.manyS 10 g ++ Bk.manyS 32 c ++ wB ++ ⟨#[10, 32, 32, 32, 122]⟩).size ≤ 900000) := Lib.hid (by rw [Bk.size_app, Bk.size_app, Bk.size_app, Bk.size_app, Bk.size_app]; omega)
              have bC : ((c : Int) == 0) = true := by simp [hc0]
              have HC00 := Lib.hid hc0
              clear hc0
              rcases HOo.out with ⟨rfl, hOo⟩ | ⟨rfl, hOo⟩
              · have bO : ((S.size : Int) == (wA.size : Int)) = true := by simp [hOo]
                clear hOo
                go_wp2_with first
                  | (go_at_call 32; with_reducible refine (low_any zC 4 _ (by omega) (by omega)).mono ?_; rintro e1 w1 ⟨rfl, rfl⟩; rw [← HC.out])
                  | (go_at_call 59; with_reducible refine (wordOf_any zB _).mono ?_; rintro e1 w1 ⟨rfl, hg⟩; rw [← HWB.out]; replace HW := Lib.hid (HW.out.trans (hg.mono HW.out.size)); clear hg)
                  | (go_at_call 60; refine (feeds_any _ _ (by omega)).mono ?_; rintro e1 w1 ⟨rfl, rfl⟩; rw [← HG.out])
                  | (go_at_call 49; refine (blanks_any _ _ (by omega)).mono ?_; rintro e1 w1 ⟨rfl, rfl⟩; rw [Int.toNat_natCast])
                  | (go_at_call 63; with_reducible refine (read63_zero (S ++ ⟨#[10]⟩ ++ Bk.manyS 10 g ++ Bk.manyS 32 c ++ wB ++ ⟨#[10, 32, 32, 32, 122]⟩) 0 flow _ HSZ.out).mono ?_; rintro e3 w3 ⟨rfl, hg⟩; rw [HRD.out]; replace HW := Lib.hid (HW.out.trans (hg.mono HW.out.size)); have hcE := (HW.out.cell (p := ⟨b0, off0, none⟩) HB0.out).trans HCA.out; clear hg)
                  | (go_at_call 59; with_reducible refine (wordOf_any zA _).mono ?_; rintro e4 w4 ⟨rfl, hg⟩; rw [← HWA.out]; replace HW := Lib.hid (HW.out.trans (hg.mono HW.out.size)); clear hg)
                  | (go_at_call 61; refine (awake11 _).mono ?_; rintro e5 w5 ⟨rfl, hg⟩; replace HW := Lib.hid (HW.out.trans (hg.mono HW.out.size)); clear hg)
                go_ret
                exact ⟨ret_bool (by simp), HW.out⟩
              · have bO : ((S.size : Int) == (wA.size : Int)) = false := by simp; omega
                clear hOo
                go_wp2_with first
                  | (go_at_call 32; with_reducible refine (low_any zC 4 _ (by omega) (by omega)).mono ?_; rintro e1 w1 ⟨rfl, rfl⟩; rw [← HC.out])
                  | (go_at_call 59; with_reducible refine (wordOf_any zB _).mono ?_; rintro e1 w1 ⟨rfl, hg⟩; rw [← HWB.out]; replace HW := Lib.hid (HW.out.trans (hg.mono HW.out.size)); clear hg)
                  | (go_at_call 60; refine (feeds_any _ _ (by omega)).mono ?_; rintro e1 w1 ⟨rfl, rfl⟩; rw [← HG.out])
                  | (go_at_call 49; refine (blanks_any _ _ (by omega)).mono ?_; rintro e1 w1 ⟨rfl, rfl⟩; rw [Int.toNat_natCast])
                  | (go_at_call 63; with_reducible refine (read63_zero (S ++ ⟨#[10]⟩ ++ Bk.manyS 10 g ++ Bk.manyS 32 c ++ wB ++ ⟨#[10, 32, 32, 32, 122]⟩) 0 flow _ HSZ.out).mono ?_; rintro e3 w3 ⟨rfl, hg⟩; rw [HRD.out]; replace HW := Lib.hid (HW.out.trans (hg.mono HW.out.size)); have hcE := (HW.out.cell (p := ⟨b0, off0, none⟩) HB0.out).trans HCA.out; clear hg)
                  | (go_at_call 59; with_reducible refine (wordOf_any zA _).mono ?_; rintro e4 w4 ⟨rfl, hg⟩; rw [← HWA.out]; replace HW := Lib.hid (HW.out.trans (hg.mono HW.out.size)); clear hg)
                  | (go_at_call 61; refine (awake11 _).mono ?_; rintro e5 w5 ⟨rfl, hg⟩; replace HW := Lib.hid (HW.out.trans (hg.mono HW.out.size)); clear hg)
                go_ret
                exact ⟨ret_bool (by simp), HW.out⟩
            · have bC : ((c : Int) == 0) = false := by simpa using hc0
              have HWd2 := Lib.hid (Bk.wd_text HWd.out HBO.out (g := g) (c := c) (by omega) (show Bk.gapS g = ⟨#[32]⟩ from by unfold Bk.gapS; first | rw [if_pos HG0.out] | rw [if_neg (by omega)] | rfl))
              have hz2 := Bk.rowS_size g c wB
              have hz3 : (S ++ ⟨#[10]⟩ ++ Bk.manyS 10 g ++ Bk.manyS 32 c ++ wB).size = S.size + (Bk.rowS g c wB).size := by rw [Bk.row_text, Bk.size_app]
              have hz4 : (W ++ ⟨#[32]⟩ ++ wB).size ≤ W.size + 6 := by rw [Bk.size_app, Bk.size_app]; omega
              have HSN : Hid ((S ++ ⟨#[10]⟩ ++ Bk.manyS 10 g ++ Bk.manyS 32 c ++ wB).size = S.size + (1 + g + c + wB.size)) := Lib.hid (by omega)
              have HSL : Hid ((S ++ ⟨#[10]⟩ ++ Bk.manyS 10 g ++ Bk.manyS 32 c ++ wB).size ≤ 10 * (k + 1) ∧ (W ++ ⟨#[32]⟩ ++ wB).size ≤ 10 * (k + 1) ∧ wA.size < (S ++ ⟨#[10]⟩ ++ Bk.manyS 10 g ++ Bk.manyS 32 c ++ wB).size) := Lib.hid (by
                have := HOo.out
                refine ⟨by omega, by omega, ?_⟩
                rcases this with h | h <;> omega)
              clear hz2 hz3 hz4
              go_wp2_with first
                | (go_at_call 32; with_reducible refine (low_any zC 4 _ (by omega) (by omega)).mono ?_; rintro e1 w1 ⟨rfl, rfl⟩; rw [← HC.out])
                | (go_at_call 59; with_reducible refine (wordOf_any zB _).mono ?_; rintro e1 w1 ⟨rfl, hg⟩; rw [← HWB.out]; replace HW := Lib.hid (HW.out.trans (hg.mono HW.out.size)); clear hg)
                | (go_at_call 60; refine (feeds_any _ _ (by omega)).mono ?_; rintro e1 w1 ⟨rfl, rfl⟩; rw [← HG.out])
                | (go_at_call 49; refine (blanks_any _ _ (by omega)).mono ?_; rintro e1 w1 ⟨rfl, rfl⟩; rw [Int.toNat_natCast])
              go_roundw
              case rel => exact ⟨k + 1, (S ++ ⟨#[10]⟩ ++ Bk.manyS 10 g ++ Bk.manyS 32 c ++ wB), _, false, by omega, by omega, by go_num, rfl, rfl, by simp; rfl, HSL.out.1, HSL.out.2.1, HWd2, Lib.hid (.inr ⟨rfl, HSL.out.2.2⟩), HW⟩
              case measure => simp [intOf]; omega
        · by_cases hgp : k < len2
          · rcases H2.out with h2 | ⟨b2, off2, rfl, hb2, hc2⟩
            · omega
            have hcg : wr.cell? ⟨b2, off2 + k, none⟩ = some (.int .i64 (z2.getD k 0)) := by
              rw [HW.out.cell (p := ⟨b2, off2 + k, none⟩) hb2]; exact hc2 k hgp
            have HB2 := Lib.hid hb2
            clear hc2 hb2
            obtain ⟨zD, hzD⟩ : ∃ zD, zD = z2.getD k 0 := ⟨_, rfl⟩
            rw [← hzD] at hcg
            clear hzD
            have hgl := Bk.lowN_lt (x := zD) (n := 3) (by omega)
            obtain ⟨g, hgq⟩ : ∃ g, g = Bk.lowN zD 3 := ⟨_, rfl⟩
            rw [← hgq] at hgl
            replace hgl : g ≤ 2 := by omega
            have HG := Lib.hid hgq
            clear hgq
            obtain ⟨c, hcq⟩ : ∃ c, c = (1 : Int).toNat := ⟨_, rfl⟩
            have hcl : c ≤ 3 := by omega
            have hc0 : ¬ c = 0 := by omega
            have HC := Lib.hid hcq
            clear hcq
            have hm1z : (Bk.manyS 10 g).size ≤ 3 := by rw [Bk.manyS_size]; omega
            have hm2z : (Bk.manyS 32 c).size ≤ 3 := by rw [Bk.manyS_size]; omega
            have q1 : ({ data := #[10] } : ByteArray).size = 1 := rfl
            have q2 : ({ data := #[32] } : ByteArray).size = 1 := rfl
            have q5 : ({ data := #[10, 32, 32, 32, 122] } : ByteArray).size = 5 := rfl
            by_cases hg0 : g = 0
            · have bG : ¬ 0 < g := by omega
              have HG0 := Lib.hid hg0
              clear hg0
              have HWd2 := Lib.hid (Bk.wd_text HWd.out HBO.out (g := g) (c := c) (by omega) (show Bk.gapS g = ⟨#[32]⟩ from by unfold Bk.gapS; first | rw [if_pos HG0.out] | rw [if_neg (by omega)] | rfl))
              have hz2 := Bk.rowS_size g c wB
              have hz3 : (S ++ ⟨#[10]⟩ ++ Bk.manyS 10 g ++ Bk.manyS 32 c ++ wB).size = S.size + (Bk.rowS g c wB).size := by rw [Bk.row_text, Bk.size_app]
              have hz4 : (W ++ ⟨#[32]⟩ ++ wB).size ≤ W.size + 6 := by rw [Bk.size_app, Bk.size_app]; omega
              have HSN : Hid ((S ++ ⟨#[10]⟩ ++ Bk.manyS 10 g ++ Bk.manyS 32 c ++ wB).size = S.size + (1 + g + c + wB.size)) := Lib.hid (by omega)
              have HSL : Hid ((S ++ ⟨#[10]⟩ ++ Bk.manyS 10 g ++ Bk.manyS 32 c ++ wB).size ≤ 10 * (k + 1) ∧ (W ++ ⟨#[32]⟩ ++ wB).size ≤ 10 * (k + 1) ∧ wA.size < (S ++ ⟨#[10]⟩ ++ Bk.manyS 10 g ++ Bk.manyS 32 c ++ wB).size) := Lib.hid (by
                have := HOo.out
                refine ⟨by omega, by omega, ?_⟩
                rcases this with h | h <;> omega)
              clear hz2 hz3 hz4
              go_wp2_with first
                | (go_at_call 32; with_reducible refine (low_any zD 3 _ (by omega) (by omega)).mono ?_; rintro e1 w1 ⟨rfl, rfl⟩; rw [← HG.out])
                | (go_at_call 59; with_reducible refine (wordOf_any zB _).mono ?_; rintro e1 w1 ⟨rfl, hg⟩; rw [← HWB.out]; replace HW := Lib.hid (HW.out.trans (hg.mono HW.out.size)); clear hg)
                | (go_at_call 60; refine (feeds_any _ _ (by omega)).mono ?_; rintro e1 w1 ⟨rfl, rfl⟩; rw [Int.toNat_natCast])
                | (go_at_call 49; refine (blanks_any _ _ (by omega)).mono ?_; rintro e1 w1 ⟨rfl, rfl⟩; rw [← HC.out])
              go_roundw
              case rel => exact ⟨k + 1, (S ++ ⟨#[10]⟩ ++ Bk.manyS 10 g ++ Bk.manyS 32 c ++ wB), _, false, by omega, by omega, by go_num, rfl, rfl, by simp; rfl, HSL.out.1, HSL.out.2.1, HWd2, Lib.hid (.inr ⟨rfl, HSL.out.2.2⟩), HW⟩
              case measure => simp [intOf]; omega
            · have bG : 0 < g := by omega
              have HWd2 := Lib.hid (Bk.wd_text HWd.out HBO.out (g := g) (c := c) (by omega) (show Bk.gapS g = Bk.manyS 10 g from by unfold Bk.gapS; first | rw [if_pos (by omega)] | rw [if_neg (by omega)] | rfl))
              have hz2 := Bk.rowS_size g c wB
              have hz3 : (S ++ ⟨#[10]⟩ ++ Bk.manyS 10 g ++ Bk.manyS 32 c ++ wB).size = S.size + (Bk.rowS g c wB).size := by rw [Bk.row_text, Bk.size_app]
              have hz4 : (W ++ Bk.manyS 10 g ++ wB).size ≤ W.size + 6 := by rw [Bk.size_app, Bk.size_app]; omega
              have HSN : Hid ((S ++ ⟨#[10]⟩ ++ Bk.manyS 10 g ++ Bk.manyS 32 c ++ wB).size = S.size + (1 + g + c + wB.size)) := Lib.hid (by omega)
              have HSL : Hid ((S ++ ⟨#[10]⟩ ++ Bk.manyS 10 g ++ Bk.manyS 32 c ++ wB).size ≤ 10 * (k + 1) ∧ (W ++ Bk.manyS 10 g ++ wB).size ≤ 10 * (k + 1) ∧ wA.size < (S ++ ⟨#[10]⟩ ++ Bk.manyS 10 g ++ Bk.manyS 32 c ++ wB).size) := Lib.hid (by
                have := HOo.out
                refine ⟨by omega, by omega, ?_⟩
                rcases this with h | h <;> omega)
              clear hz2 hz3 hz4
              go_wp2_with first
                | (go_at_call 32; with_reducible refine (low_any zD 3 _ (by omega) (by omega)).mono ?_; rintro e1 w1 ⟨rfl, rfl⟩; rw [← HG.out])
                | (go_at_call 59; with_reducible refine (wordOf_any zB _).mono ?_; rintro e1 w1 ⟨rfl, hg⟩; rw [← HWB.out]; replace HW := Lib.hid (HW.out.trans (hg.mono HW.out.size)); clear hg)
                | (go_at_call 60; refine (feeds_any _ _ (by omega)).mono ?_; rintro e1 w1 ⟨rfl, rfl⟩; rw [Int.toNat_natCast])
                | (go_at_call 49; refine (blanks_any _ _ (by omega)).mono ?_; rintro e1 w1 ⟨rfl, rfl⟩; rw [← HC.out])
              go_roundw
              case rel => exact ⟨k + 1, (S ++ ⟨#[10]⟩ ++ Bk.manyS 10 g ++ Bk.manyS 32 c ++ wB), _, false, by omega, by omega, by go_num, rfl, rfl, by simp; rfl, HSL.out.1, HSL.out.2.1, HWd2, Lib.hid (.inr ⟨rfl, HSL.out.2.2⟩), HW⟩
              case measure => simp [intOf]; omega
          · obtain ⟨c, hcq⟩ : ∃ c, c = (1 : Int).toNat := ⟨_, rfl⟩
            have hcl : c ≤ 3 := by omega
            have hc0 : ¬ c = 0 := by omega
            have HC := Lib.hid hcq
            clear hcq
            obtain ⟨g, hgq⟩ : ∃ g, g = (0 : Int).toNat := ⟨_, rfl⟩
            have hgl : g ≤ 2 := by omega
            have hg0 : g = 0 := by omega
            have HG := Lib.hid hgq
            have HG0 := Lib.hid hg0
            clear hgq hg0
            have hm1z : (Bk.manyS 10 g).size ≤ 3 := by rw [Bk.manyS_size]; omega
            have hm2z : (Bk.manyS 32 c).size ≤ 3 := by rw [Bk.manyS_size]; omega
            have q1 : ({ data := #[10] } : ByteArray).size = 1 := rfl
            have q2 : ({ data := #[32] } : ByteArray).size = 1 := rfl
            have q5 : ({ data := #[10, 32, 32, 32, 122] } : ByteArray).size = 5 := rfl
            have HWd2 := Lib.hid (Bk.wd_text HWd.out HBO.out (g := g) (c := c) (by omega) (show Bk.gapS g = ⟨#[32]⟩ from by unfold Bk.gapS; first | rw [if_pos HG0.out] | rw [if_neg (by omega)] | rfl))
            have hz2 := Bk.rowS_size g c wB
            have hz3 : (S ++ ⟨#[10]⟩ ++ Bk.manyS 10 g ++ Bk.manyS 32 c ++ wB).size = S.size + (Bk.rowS g c wB).size := by rw [Bk.row_text, Bk.size_app]
            have hz4 : (W ++ ⟨#[32]⟩ ++ wB).size ≤ W.size + 6 := by rw [Bk.size_app, Bk.size_app]; omega
            have HSN : Hid ((S ++ ⟨#[10]⟩ ++ Bk.manyS 10 g ++ Bk.manyS 32 c ++ wB).size = S.size + (1 + g + c + wB.size)) := Lib.hid (by omega)
            have HSL : Hid ((S ++ ⟨#[10]⟩ ++ Bk.manyS 10 g ++ Bk.manyS 32 c ++ wB).size ≤ 10 * (k + 1) ∧ (W ++ ⟨#[32]⟩ ++ wB).size ≤ 10 * (k + 1) ∧ wA.size < (S ++ ⟨#[10]⟩ ++ Bk.manyS 10 g ++ Bk.manyS 32 c ++ wB).size) := Lib.hid (by
              have := HOo.out
              refine ⟨by omega, by omega, ?_⟩
              rcases this with h | h <;> omega)
            clear hz2 hz3 hz4
            go_wp2_with first
              | (go_at_call 59; with_reducible refine (wordOf_any zB _).mono ?_; rintro e1 w1 ⟨rfl, hg⟩; rw [← HWB.out]; replace HW := Lib.hid (HW.out.trans (hg.mono HW.out.size)); clear hg)
              | (go_at_call 60; refine (feeds_any _ _ (by omega)).mono ?_; rintro e1 w1 ⟨rfl, rfl⟩; rw [← HG.out])
              | (go_at_call 49; refine (blanks_any _ _ (by omega)).mono ?_; rintro e1 w1 ⟨rfl, rfl⟩; rw [← HC.out])
            go_roundw
            case rel => exact ⟨k + 1, (S ++ ⟨#[10]⟩ ++ Bk.manyS 10 g ++ Bk.manyS 32 c ++ wB), _, false, by omega, by omega, by go_num, rfl, rfl, by simp; rfl, HSL.out.1, HSL.out.2.1, HWd2, Lib.hid (.inr ⟨rfl, HSL.out.2.2⟩), HW⟩
            case measure => simp [intOf]; omega
      · obtain rfl : k = len0 := by omega
        have HRD := Lib.hid (Bk.wd_end HWd.out)
        have HSZ : Hid (S.size ≤ 900000) := Lib.hid (by omega)
        rcases HOo.out with ⟨rfl, hOo⟩ | ⟨rfl, hOo⟩
        · have bO : ((S.size : Int) == (wA.size : Int)) = true := by simp [hOo]
          clear hOo
          go_wp2_with first
            | (go_at_call 63; with_reducible refine (read63_zero S 0 flow _ HSZ.out).mono ?_; rintro e3 w3 ⟨rfl, hg⟩; rw [HRD.out]; replace HW := Lib.hid (HW.out.trans (hg.mono HW.out.size)); have hcE := (HW.out.cell (p := ⟨b0, off0, none⟩) HB0.out).trans HCA.out; clear hg)
            | (go_at_call 59; with_reducible refine (wordOf_any zA _).mono ?_; rintro e4 w4 ⟨rfl, hg⟩; rw [← HWA.out]; replace HW := Lib.hid (HW.out.trans (hg.mono HW.out.size)); clear hg)
            | (go_at_call 61; refine (awake11 _).mono ?_; rintro e5 w5 ⟨rfl, hg⟩; replace HW := Lib.hid (HW.out.trans (hg.mono HW.out.size)); clear hg)
          go_ret
          exact ⟨ret_bool (by simp), HW.out⟩
        · have bO : ((S.size : Int) == (wA.size : Int)) = false := by simp; omega
          clear hOo
          go_wp2_with first
            | (go_at_call 63; with_reducible refine (read63_zero S 0 flow _ HSZ.out).mono ?_; rintro e3 w3 ⟨rfl, hg⟩; rw [HRD.out]; replace HW := Lib.hid (HW.out.trans (hg.mono HW.out.size)); have hcE := (HW.out.cell (p := ⟨b0, off0, none⟩) HB0.out).trans HCA.out; clear hg)
            | (go_at_call 59; with_reducible refine (wordOf_any zA _).mono ?_; rintro e4 w4 ⟨rfl, hg⟩; rw [← HWA.out]; replace HW := Lib.hid (HW.out.trans (hg.mono HW.out.size)); clear hg)
            | (go_at_call 61; refine (awake11 _).mono ?_; rintro e5 w5 ⟨rfl, hg⟩; replace HW := Lib.hid (HW.out.trans (hg.mono HW.out.size)); clear hg)
          go_ret
          exact ⟨ret_bool (by simp), HW.out⟩
  · by_cases hl1 : len0 < 1
    · go_enter Try.func18, Try.ntmps18
      go_wp2_with (go_at_call 61; refine (awake11 _).mono ?_; rintro e w' ⟨rfl, hg⟩)
      go_ret
      exact ⟨rfl, hg⟩
    · have hl2 : 8 < len0 := by omega
      clear hok
      go_enter Try.func18, Try.ntmps18
      go_wp2_with (go_at_call 61; refine (awake11 _).mono ?_; rintro e w' ⟨rfl, hg⟩)
      go_ret
      exact ⟨rfl, hg⟩
end Go.Proofs.Ytmmhpejnfkienaa
