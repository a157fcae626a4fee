/- The law LayoMade of chapter 25: its walk. -/
import Derived.Test.YthkpoiideiimaaaRef8
namespace Go.Proofs.Ythkpoiideiimaaa
open Go Go.RowKit Go.PlainAid
set_option linter.unusedVariables false
open Bk (Fo)
set_option maxRecDepth 100000 in
set_option maxHeartbeats 16000000 in
theorem made_walk (a0 : Option Addr) (len cap : Nat) (z : List Int) (a1 : Int) (w : World) (h0 : IntsAt w a0 len z) :
    Calls Try.prog 3 #[.slice a0 len cap, .int .i64 a1] w fun e w' => e = .returned (.bool true) ∧ Below w.heap.size w w' := by
  obtain ⟨hml, h0⟩ := h0
  unfold maxLen at hml
  have H0 := Lib.hid h0
  clear h0
  by_cases hl : len ≤ 60
  · have hwl := Bk.lowN_lt (x := a1) (n := 60) (by omega)
    obtain ⟨W, hW⟩ : ∃ W, W = Bk.lowN a1 60 := ⟨_, rfl⟩
    rw [← hW] at hwl
    have HW := Lib.hid hW
    clear hW
    go_enter Try.func3, Try.ntmps3
    go_wp2_with fail
    refine (made_any a0 len cap z true w (by omega) H0.out).mono ?_
    rintro e w1 ⟨F, a, cp, rfl, hs1, hF, hg1⟩
    have HL := Lib.hid (made_lays hF (by omega) 5 (by omega))
    obtain ⟨L, hL⟩ : ∃ L, F.len = L := ⟨_, rfl⟩
    rw [hL]
    have HLN := Lib.hid hL
    have HS1 := Lib.hid (hs1.weak (ok' := fun _ => True) (fun _ _ _ => trivial))
    have HG1 := Lib.hid hg1
    have HB1 := Lib.hid (lbox_new w1 5 ByteArray.empty 0 (.slice a L cp))
    have HA1 := Lib.hid ((Below.refl w1.heap.size w1).alloc (Nat.le_refl _) (.cells #[.int .i64 5, .string ByteArray.empty, .int .i64 0, .slice a L cp] 26))
    have HGA := Lib.hid (hg1.trans (HA1.out.mono hg1.size))
    have HGD := Lib.hid HL.out.good
    have HCC : Hid (ByteArray.empty.size + 1 + Bk.costF F ≤ 100000000) := Lib.hid (by have := HL.out.cost; omega)
    clear hs1 hF hg1 hL
    obtain ⟨s, hs⟩ : ∃ s, Bk.showN (max (W : Int) 0) 5 ByteArray.empty 0 F = s := ⟨_, rfl⟩
    have HSS := Lib.hid hs
    obtain ⟨r, hr⟩ : ∃ r, Bk.nodeW 5 ByteArray.empty F = r := ⟨_, rfl⟩
    have HRR := Lib.hid hr
    clear hs hr
    go_wp2_with (go_at_call 11; refine (low_any a1 60 _ (by omega) (by omega)).mono ?_; rintro e w' ⟨rfl, rfl⟩; rw [← HW.out])
    refine (wide_at 5 0 ByteArray.empty F a cp L r _ HLN.out HRR.out (HS1.out.below HA1.out) HL.out).mono ?_
    rintro e w2 ⟨rfl, hg2⟩
    have HG2 := Lib.hid (HGA.out.trans (hg2.mono HGA.out.size))
    have HB2 := Lib.hid (HB1.out.below hg2)
    have HS2 := Lib.hid (HS1.out.below (HA1.out.trans (hg2.mono HA1.out.size)))
    clear hg2
    obtain ⟨hblt, b0, b1, b2, b3⟩ := HB2.out
    clear hblt
    go_wp2_with fail
    refine (rwide_at 5 0 ByteArray.empty F a cp L r w2 HLN.out HRR.out HS2.out HGD.out HCC.out).mono ?_
    rintro e w3 ⟨rfl, hg3⟩
    have HG3 := Lib.hid (HG2.out.trans (hg3.mono HG2.out.size))
    have HB3 := Lib.hid (HB2.out.below hg3)
    have HS3 := Lib.hid (HS2.out.below hg3)
    clear hg3 b0 b1 b2 b3
    obtain ⟨hblt, b0, b1, b2, b3⟩ := HB3.out
    have HBL := Lib.hid hblt
    have C0 := Lib.hid b0
    have C1 := Lib.hid b1
    have C2 := Lib.hid b2
    have C3 := Lib.hid b3
    clear hblt
    obtain ⟨rn, hrn⟩ : ∃ rn : Int, rn = ((r.getD 0 : Nat) : Int) := ⟨_, rfl⟩
    rw [← hrn]
    obtain ⟨rb, hrb⟩ : ∃ rb : Bool, rb = r.isSome := ⟨_, rfl⟩
    rw [← hrb]
    clear hrn hrb
    go_wp2_with fail
    have KH : ∀ w5 w6 : World, Hid (Below w3.heap.size w3 w5) → Below w5.heap.size w5 w6 → Hid (Below w3.heap.size w3 w6) := fun w5 w6 h1 h2 => Lib.hid (h1.out.trans (h2.mono h1.out.size))
    have HKH := Lib.hid KH
    clear KH
    go_region_held3 (fun x => x.cell? ⟨w1.heap.size, 0, none⟩ = some (.int .i64 5) ∧ x.cell? ⟨w1.heap.size, 1, none⟩ = some (.string ByteArray.empty) ∧ x.cell? ⟨w1.heap.size, 2, none⟩ = some (.int .i64 0) ∧ x.cell? ⟨w1.heap.size, 3, none⟩ = some (.slice a L cp) ∧ Hid (Below w3.heap.size w3 x))
      (first
        | exact ⟨C0.out, C1.out, C2.out, C3.out, Lib.hid (Below.drew (Below.refl _ w3))⟩
        | (go_split_ands; exact ⟨(KK.out.cell (p := ⟨w1.heap.size, 0, none⟩) HBL.out).trans C0.out, (KK.out.cell (p := ⟨w1.heap.size, 1, none⟩) HBL.out).trans C1.out, (KK.out.cell (p := ⟨w1.heap.size, 2, none⟩) HBL.out).trans C2.out, (KK.out.cell (p := ⟨w1.heap.size, 3, none⟩) HBL.out).trans C3.out, KK⟩)
        | go_keep)
      (first
        | (go_at_call 14; go_split_ands; refine (show_at W 5 0 ByteArray.empty F a cp L s _ HLN.out HSS.out (HS3.out.below (‹Hid (Below w3.heap.size w3 _)›).out) HL.out (by omega)).mono ?_; rintro e w5 ⟨rfl, hg5⟩; have KK : Hid (Below w3.heap.size w3 w5) := HKH.out _ _ (‹Hid (Below w3.heap.size w3 _)›) hg5; clear hg5)
        | (go_at_call 15; go_split_ands; refine (rlay_at W 5 0 ByteArray.empty F a cp L s _ HLN.out HSS.out (HS3.out.below (‹Hid (Below w3.heap.size w3 _)›).out) HL.out (by omega)).mono ?_; rintro e w6 ⟨rfl, hg6⟩; replace KK : Hid (Below w3.heap.size w3 w6) := HKH.out _ _ (‹Hid (Below w3.heap.size w3 _)›) hg6; clear hg6)
        | (go_at_call 9; go_split_ands; refine (awake_any _).mono ?_; rintro e w7 ⟨rfl, hg7⟩; replace KK : Hid (Below w3.heap.size w3 w7) := HKH.out _ _ (‹Hid (Below w3.heap.size w3 _)›) hg7; clear hg7))
    all_goals
      go_wp2_with fail
      go_ret
      exact ⟨rfl, HG3.out.trans (Below.mono (show Below w3.heap.size w3 _ from (‹Hid (Below w3.heap.size w3 _)›).out) HG3.out.size)⟩
  · go_enter Try.func3, Try.ntmps3
    go_wp2_with (go_at_call 9; refine (awake_any _).mono ?_; rintro e w3 ⟨rfl, hg3⟩; have HG3 := Lib.hid hg3; clear hg3)
    go_ret
    exact ⟨rfl, HG3.out⟩
end Go.Proofs.Ythkpoiideiimaaa
