/- The law LayoFits of chapter 25: its walk. -/
import Derived.Test.YthkpoiideiimaaaBrk
import Derived.Test.YthkpoiideiimaaaFit0
namespace Go.Proofs.Ythkpoiideiimaaa
open Go Go.RowKit Go.PlainAid
set_option linter.unusedVariables false
open Bk (Fo)
theorem Bk.cntN_le (s : ByteArray) : ∀ k, Bk.cntN s k ≤ k
  | 0 => Nat.le_refl _
  | k + 1 => by
    have := Bk.cntN_le s k
    rw [Bk.cntN]; split <;> omega
theorem Bk.cntF_le (s : ByteArray) : Bk.cntF s ≤ s.size := Bk.cntN_le s _
theorem word_good (x : Int) : (∃ m, Bk.Gd (Bk.wordS x) m) ∧ (∀ j, j < (Bk.wordS x).size → bt (Bk.wordS x) j ≠ 10) ∧ (Bk.wordS x).size ≤ 3 ∧ 1 ≤ (Bk.wordS x).size := by
  have h := Bk.gd_word (Bk.lowN x 10) (Bk.word_low x)
  exact ⟨h.1, h.2, Bk.wordS_is x⟩
theorem pair_lays {len : Nat} {F : Fo} (h : Bk.MadeF len F) (hl : len ≤ 60) (x : Int) : Lays 5 0 ⟨#[]⟩ (Bk.pairF (Bk.wordS x) F) := by
  have h1 := h.flen
  have h2 := h.cost
  have h3 := h.nst
  obtain ⟨g1, g2, g3, g4⟩ := word_good x
  have e0 : (Bk.clampN 0).toNat = 0 := by decide
  have e1 : ByteArray.empty.size = 0 := rfl
  have e2 : (⟨#[]⟩ : ByteArray).size = 0 := rfl
  refine ⟨⟨⟨0, .nil⟩, fun j hj => absurd hj (Nat.not_lt_zero j), by decide, fun h => absurd h (by decide), by decide, ?_, trivial⟩, ?_, by show 2 ≤ _; omega, ?_, ?_⟩
  · exact ⟨g1, g2, by decide, fun _ => rfl, by decide, trivial, ⟨0, .nil⟩, fun j hj => absurd hj (Nat.not_lt_zero j), by decide, fun h => absurd h (by decide), by decide, h.good, trivial⟩
  · exact ⟨by decide, trivial, by omega, h.short, trivial⟩
  · unfold Bk.pairF; simp only [Bk.nstF]; omega
  · unfold Bk.pairF; simp only [Bk.costF]; omega
theorem pair_at {w : World} {T : ByteArray} {F : Fo} {a : Option Addr} {L cp : Nat} (hL : F.len = L) (h : SlAt w (fun _ => True) a F) :
    SlAt (w.alloc (.cells #[.int .i64 1, .string T, .int .i64 0, .slice none 0 0, .int .i64 7, .string ByteArray.empty, .int .i64 0, .slice a L cp] 26)) (fun _ => True) (some ⟨w.heap.size, 0, none⟩) (Bk.pairF T F) := by
  have hb := heap_alloc_new w (.cells #[.int .i64 1, .string T, .int .i64 0, .slice none 0 0, .int .i64 7, .string ByteArray.empty, .int .i64 0, .slice a L cp] 26)
  subst hL
  refine .inr ⟨w.heap.size, 0, rfl, by simp, trivial, ?_, ?_, ?_, ⟨none, 0, ?_, .inl rfl⟩, ?_, ?_, ?_, ⟨a, cp, ?_, h.below ((Below.refl _ _).alloc (Nat.le_refl _) _)⟩, trivial⟩
  all_goals (rw [Lib.cell_of_heap hb]; rfl)
set_option maxRecDepth 100000 in
set_option maxHeartbeats 8000000 in
theorem fits_walk (a0 : Option Addr) (len cap : Nat) (z : List Int) (a1 a2 : Int) (w : World) (h0 : IntsAt w a0 len z) :
    Calls Try.prog 4 #[.slice a0 len cap, .int .i64 a1, .int .i64 a2] w fun e w' => e = .returned (.bool true) ∧ Below w.heap.size w w' := by
  obtain ⟨hml, h0⟩ := h0
  unfold maxLen at hml
  have H0 := Lib.hid h0
  clear h0
  by_cases hl : len ≤ 40
  · have hwl := Bk.lowN_lt (x := a2) (n := 50) (by omega)
    obtain ⟨W, hW⟩ : ∃ W, W = Bk.lowN a2 50 := ⟨_, rfl⟩
    rw [← hW] at hwl
    have HW := Lib.hid hW
    obtain ⟨T, hT⟩ : ∃ T, T = Bk.wordS a1 := ⟨_, rfl⟩
    have HT := Lib.hid hT
    clear hW hT
    go_enter Try.func4, Try.ntmps4
    go_wp2_with fail
    refine (made_any a0 len cap z true w (by omega) H0.out).mono ?_
    rintro e w1 ⟨F, a, cp, rfl, hs1, hF, hg1⟩
    have HL := Lib.hid (made_lays hF (by omega) 7 (by omega))
    have HPL : Hid (Lays 5 0 ⟨#[]⟩ (Bk.pairF T F)) := Lib.hid (by rw [HT.out]; exact pair_lays hF (by omega) a1)
    have HBA := Lib.hid (br_all F (by have := hF.cost; omega))
    have HCF : Hid (Bk.costF F ≤ 720) := Lib.hid (by have := hF.cost; omega)
    have HGF := Lib.hid hF.good
    have hbf : Bk.brF F ≤ 720 := by have := Bk.br_cost F; have := hF.cost; omega
    obtain ⟨L, hL⟩ : ∃ L, F.len = L := ⟨_, rfl⟩
    rw [hL]
    have HLN := Lib.hid hL
    have HS1 := Lib.hid (hs1.weak (ok' := fun _ => True) (fun _ _ _ => trivial))
    have HG1 := Lib.hid hg1
    have HB1 := Lib.hid (lbox_new w1 7 ByteArray.empty 0 (.slice a L cp))
    have HA1 := Lib.hid ((Below.refl w1.heap.size w1).alloc (Nat.le_refl _) (.cells #[.int .i64 7, .string ByteArray.empty, .int .i64 0, .slice a L cp] 26))
    clear hs1 hF hg1 hL
    go_wp2_with (first
      | (go_at_call 16; refine (wordOf_any a1 _).mono ?_; rintro e w2 ⟨rfl, hg2⟩; rw [← HT.out]; have HB2 := Lib.hid (HB1.out.below hg2); have HG2 := Lib.hid (HA1.out.trans (hg2.mono HA1.out.size)); obtain ⟨hblt, b0, b1, b2, b3⟩ := HB2.out; have HBL := Lib.hid hblt; clear hblt)
      | (go_at_call 11; refine (low_any a2 50 _ (by omega) (by omega)).mono ?_; rintro e w' ⟨rfl, rfl⟩; rw [← HW.out]))
    have HSP := Lib.hid (pair_at (T := T) (cp := cp) HLN.out (HS1.out.below HG2.out))
    obtain ⟨s, hs⟩ : ∃ s, Bk.showN (max (W : Int) 0) 5 ⟨#[]⟩ 0 (Bk.pairF T F) = s := ⟨_, rfl⟩
    have hsz : s.size ≤ 99000000 := by rw [← hs]; exact show_size HPL.out
    have HSS := Lib.hid hs
    clear hs
    refine (show_at W 5 0 ⟨#[]⟩ (Bk.pairF T F) _ 2 2 s _ rfl HSS.out HSP.out HPL.out (by omega)).mono ?_
    rintro e w3 ⟨rfl, hg3⟩
    have hgx := ((Below.refl w2.heap.size w2).alloc (Nat.le_refl _) (.cells #[.int .i64 1, .string T, .int .i64 0, .slice none 0 0, .int .i64 7, .string ByteArray.empty, .int .i64 0, .slice a L cp] 26)).trans (hg3.mono (by simp))
    have HG3 := Lib.hid (HG2.out.trans (hgx.mono HG2.out.size))
    have HB3 := Lib.hid (HB2.out.below hgx)
    have HS3 := Lib.hid (HS1.out.below HG3.out)
    clear hg3 hgx
    obtain ⟨hblt, b0, b1, b2, b3⟩ := HB3.out
    clear hblt
    have HWN : Hid (Bk.nodeW 7 ByteArray.empty F = Bk.widF F) := Lib.hid rfl
    have HTG : Hid ((∃ m, Bk.Gd T m) ∧ (∀ j, j < T.size → bt T j ≠ 10) ∧ T.size ≤ 3 ∧ 1 ≤ T.size) := Lib.hid (by rw [HT.out]; exact word_good a1)
    have htw := Bk.widS_le T
    have htz := HTG.out.2.2.1
    obtain ⟨wt, hwt⟩ : ∃ wt, wt = Bk.widS T := ⟨_, rfl⟩
    have HWT := Lib.hid hwt
    rw [← hwt] at htw
    have hss : Bk.showN W 5 ByteArray.empty 0 (Bk.pairF T F) = s := by have := HSS.out; rw [show max (W : Int) 0 = W from by omega] at this; exact this
    have HCS : Hid ((∀ v, Bk.widF F = some v → ¬ ((wt : Int) + v ≤ W)) → Bk.brF F ≤ Bk.cntF s) := Lib.hid (by
      intro h
      rw [← hss]
      exact Bk.pair_breaks (by have := HTG.out.2.2.2; omega) HGF.out (by rw [← hwt]; exact h))
    have HCY : Hid (∀ v, Bk.widF F = some v → (wt : Int) + v ≤ W → Bk.cntF s = 0 ∧ Bk.widS s = wt + v) := Lib.hid (by
      intro v hv hle
      obtain ⟨m, hm⟩ := HTG.out.1
      have := Bk.pair_fits (W := W) (v := v) hm (by have := HTG.out.2.2.2; omega) HTG.out.2.1 HGF.out hv (by rw [← hwt]; exact hle)
      rw [hss] at this
      rw [hwt]; exact this)
    have HCZ : Hid (Bk.cntF s ≤ s.size) := Lib.hid (Bk.cntF_le s)
    have HTS : Hid (T.size ≤ 100000000) := Lib.hid (by omega)
    clear hwt hss
    cases hr : Bk.widF F with
    | none =>
      have HR : Hid (Bk.nodeW 7 ByteArray.empty F = none) := Lib.hid hr
      have hC : Bk.brF F ≤ Bk.cntF s := (HCS.out (fun v hv => by rw [hr] at hv; cases hv))
      clear hr
      go_wp2_with fail
      refine (wide_at 7 0 ByteArray.empty F a cp L none w3 HLN.out HR.out HS3.out HL.out).mono ?_
      rintro e w4 ⟨rfl, hg4⟩
      have HG4 := Lib.hid (HG3.out.trans (hg4.mono HG3.out.size))
      have HB4 := Lib.hid (HB3.out.below hg4)
      have HS4 := Lib.hid (HS1.out.below HG4.out)
      clear hg4 b0 b1 b2 b3
      obtain ⟨hblt, b0, b1, b2, b3⟩ := HB4.out
      have HBL4 := Lib.hid hblt
      clear hblt
      go_wp2_with fail
      have C0 := Lib.hid b0
      have C1 := Lib.hid b1
      have C2 := Lib.hid b2
      have C3 := Lib.hid b3
      have hcs : Bk.cntF s ≤ 99000000 := by have := HCZ.out; omega
      have hge : ((Bk.cntF s : Nat) : Int) ≥ ((0 + Bk.brF F : Nat) : Int) := by omega
      have HGE := Lib.hid hge
      clear hge hC
      go_region_held3 (fun x => x.cell? ⟨w1.heap.size, 0, none⟩ = some (.int .i64 7) ∧ x.cell? ⟨w1.heap.size, 1, none⟩ = some (.string ByteArray.empty) ∧ x.cell? ⟨w1.heap.size, 2, none⟩ = some (.int .i64 0) ∧ x.cell? ⟨w1.heap.size, 3, none⟩ = some (.slice a L cp) ∧ Hid (Below w4.heap.size w4 x))
        (first
          | exact ⟨C0.out, C1.out, C2.out, C3.out, Lib.hid (Below.drew (Below.refl _ w4))⟩
          | (go_split_ands; exact ⟨(KK.out.cell (p := ⟨w1.heap.size, 0, none⟩) HBL4.out).trans C0.out, (KK.out.cell (p := ⟨w1.heap.size, 1, none⟩) HBL4.out).trans C1.out, (KK.out.cell (p := ⟨w1.heap.size, 2, none⟩) HBL4.out).trans C2.out, (KK.out.cell (p := ⟨w1.heap.size, 3, none⟩) HBL4.out).trans C3.out, KK⟩)
          | go_keep)
        (first
          | (go_at_call 18; refine (feeds18_any s _ (by omega)).mono ?_; rintro e w' ⟨rfl, rfl⟩)
          | (go_at_call 19; go_split_ands; refine (breaks_any 7 0 ByteArray.empty F a cp L _ HLN.out (HS4.out.below (‹Hid (Below w4.heap.size w4 _)›).out) (by have := HCF.out; omega)).mono ?_; rintro e w5 ⟨rfl, hg5⟩; have KK : Hid (Below w4.heap.size w4 w5) := Lib.hid (Below.trans (show Below w4.heap.size w4 _ from (‹Hid (Below w4.heap.size w4 _)›).out) (hg5.mono (Below.size (‹Hid (Below w4.heap.size w4 _)›).out))); clear hg5)
          | (go_at_call 9; go_split_ands; refine (awake_any _).mono ?_; rintro e w6 ⟨rfl, hg6⟩; replace KK : Hid (Below w4.heap.size w4 w6) := Lib.hid (Below.trans (show Below w4.heap.size w4 _ from (‹Hid (Below w4.heap.size w4 _)›).out) (hg6.mono (Below.size (‹Hid (Below w4.heap.size w4 _)›).out))); clear hg6))
      go_wp2_with fail
      go_ret
      exact ⟨rfl, HG1.out.trans ((HG4.out.trans (Below.mono (show Below w4.heap.size w4 _ from (‹Hid (Below w4.heap.size w4 _)›).out) HG4.out.size)).mono HG1.out.size)⟩
    | some v =>
      have HR : Hid (Bk.nodeW 7 ByteArray.empty F = some v) := Lib.hid hr
      have hvc := Bk.wid_cost F v hr
      have hcf := HCF.out
      by_cases hle : (wt : Int) + v ≤ W
      · have HC := Lib.hid (HCY.out v hr hle)
        clear hr
        go_wp2_with fail
        refine (wide_at 7 0 ByteArray.empty F a cp L (some v) w3 HLN.out HR.out HS3.out HL.out).mono ?_
        rintro e w4 ⟨rfl, hg4⟩
        have HG4 := Lib.hid (HG3.out.trans (hg4.mono HG3.out.size))
        have HB4 := Lib.hid (HB3.out.below hg4)
        have HS4 := Lib.hid (HS1.out.below HG4.out)
        clear hg4 b0 b1 b2 b3
        obtain ⟨hblt, b0, b1, b2, b3⟩ := HB4.out
        have HBL4 := Lib.hid hblt
        clear hblt
        have HZ : Hid (Bk.cntF s = 0) := Lib.hid HC.out.1
        have HWS : Hid (Bk.widS s = wt + v) := Lib.hid HC.out.2
        have HSS2 : Hid (s.size ≤ 100000000) := Lib.hid (by omega)
        go_wp2_with (first
          | (go_at_call 17; (with_reducible refine (width_any T _ HTS.out).mono ?_); rintro e w5 ⟨rfl, hg5⟩; rw [← HWT.out]; have HG7 := Lib.hid (HG6.out.trans (hg5.mono HG6.out.size)); clear hg5)
          | (go_at_call 17; (with_reducible refine (width_any T _ HTS.out).mono ?_); rintro e w5 ⟨rfl, hg5⟩; rw [← HWT.out]; have HG5 := Lib.hid (HG4.out.trans (hg5.mono HG4.out.size)); clear hg5)
          | (go_at_call 17; (with_reducible refine (width_any s _ HSS2.out).mono ?_); rintro e w5 ⟨rfl, hg5⟩; rw [HWS.out]; have HG6 := Lib.hid (HG5.out.trans (hg5.mono HG5.out.size)); clear hg5)
          | (go_at_call 9; refine (awake_any _).mono ?_; rintro e w5 ⟨rfl, hg5⟩; have HG8 := Lib.hid (HG7.out.trans (hg5.mono HG7.out.size)); clear hg5)
          | (go_at_call 18; refine (feeds18_any s _ (by omega)).mono ?_; rintro e w' ⟨rfl, rfl⟩; rw [HZ.out]))
        go_ret
        exact ⟨rfl, HG1.out.trans (HG8.out.mono HG1.out.size)⟩
      · have hC : Bk.brF F ≤ Bk.cntF s := (HCS.out (fun x hx => by rw [hr] at hx; cases hx; exact hle))
        clear hr
        go_wp2_with fail
        refine (wide_at 7 0 ByteArray.empty F a cp L (some v) w3 HLN.out HR.out HS3.out HL.out).mono ?_
        rintro e w4 ⟨rfl, hg4⟩
        have HG4 := Lib.hid (HG3.out.trans (hg4.mono HG3.out.size))
        have HB4 := Lib.hid (HB3.out.below hg4)
        have HS4 := Lib.hid (HS1.out.below HG4.out)
        clear hg4 b0 b1 b2 b3
        obtain ⟨hblt, b0, b1, b2, b3⟩ := HB4.out
        have HBL4 := Lib.hid hblt
        clear hblt
        go_wp2_with (go_at_call 17; (with_reducible refine (width_any T _ HTS.out).mono ?_); rintro e w5 ⟨rfl, hg5⟩; rw [← HWT.out]; have HG5 := Lib.hid (HG4.out.trans (hg5.mono HG4.out.size)); have HB5 := Lib.hid (HB4.out.below hg5); have HS5 := Lib.hid (HS4.out.below hg5); clear hg5 b0 b1 b2 b3; obtain ⟨hblt, b0, b1, b2, b3⟩ := HB5.out; have HBL5 := Lib.hid hblt; clear hblt)
        have C0 := Lib.hid b0
        have C1 := Lib.hid b1
        have C2 := Lib.hid b2
        have C3 := Lib.hid b3
        have hcs : Bk.cntF s ≤ 99000000 := by have := HCZ.out; omega
        have hge : ((Bk.cntF s : Nat) : Int) ≥ ((0 + Bk.brF F : Nat) : Int) := by omega
        have HGE := Lib.hid hge
        clear hge hC
        go_region_held3 (fun x => x.cell? ⟨w1.heap.size, 0, none⟩ = some (.int .i64 7) ∧ x.cell? ⟨w1.heap.size, 1, none⟩ = some (.string ByteArray.empty) ∧ x.cell? ⟨w1.heap.size, 2, none⟩ = some (.int .i64 0) ∧ x.cell? ⟨w1.heap.size, 3, none⟩ = some (.slice a L cp) ∧ Hid (Below w5.heap.size w5 x))
          (first
            | exact ⟨C0.out, C1.out, C2.out, C3.out, Lib.hid (Below.drew (Below.refl _ w5))⟩
            | (go_split_ands; exact ⟨(KK.out.cell (p := ⟨w1.heap.size, 0, none⟩) HBL5.out).trans C0.out, (KK.out.cell (p := ⟨w1.heap.size, 1, none⟩) HBL5.out).trans C1.out, (KK.out.cell (p := ⟨w1.heap.size, 2, none⟩) HBL5.out).trans C2.out, (KK.out.cell (p := ⟨w1.heap.size, 3, none⟩) HBL5.out).trans C3.out, KK⟩)
            | go_keep)
          (first
            | (go_at_call 18; refine (feeds18_any s _ (by omega)).mono ?_; rintro e w' ⟨rfl, rfl⟩)
            | (go_at_call 19; go_split_ands; refine (breaks_any 7 0 ByteArray.empty F a cp L _ HLN.out (HS5.out.below (‹Hid (Below w5.heap.size w5 _)›).out) (by have := HCF.out; omega)).mono ?_; rintro e w7 ⟨rfl, hg5⟩; have KK : Hid (Below w5.heap.size w5 w7) := Lib.hid (Below.trans (show Below w5.heap.size w5 _ from (‹Hid (Below w5.heap.size w5 _)›).out) (hg5.mono (Below.size (‹Hid (Below w5.heap.size w5 _)›).out))); clear hg5)
            | (go_at_call 9; go_split_ands; refine (awake_any _).mono ?_; rintro e w6 ⟨rfl, hg6⟩; replace KK : Hid (Below w5.heap.size w5 w6) := Lib.hid (Below.trans (show Below w5.heap.size w5 _ from (‹Hid (Below w5.heap.size w5 _)›).out) (hg6.mono (Below.size (‹Hid (Below w5.heap.size w5 _)›).out))); clear hg6))
        go_wp2_with fail
        go_ret
        exact ⟨rfl, HG1.out.trans ((HG5.out.trans (Below.mono (show Below w5.heap.size w5 _ from (‹Hid (Below w5.heap.size w5 _)›).out) HG5.out.size)).mono HG1.out.size)⟩
  · go_enter Try.func4, Try.ntmps4
    go_wp2_with (go_at_call 9; refine (awake_any _).mono ?_; rintro e w3 ⟨rfl, hg3⟩; have HG3 := Lib.hid hg3; clear hg3)
    go_ret
    exact ⟨rfl, HG3.out⟩
end Go.Proofs.Ythkpoiideiimaaa
