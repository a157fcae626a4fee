/- The reference's teller: a text at the beginning of a row; texts: contracts. -/
import Derived.Test.YthkpoiideiimaaaRef4
namespace Go.Proofs.Ythkpoiideiimaaa
open Go Go.RowKit Go.PlainAid
set_option linter.unusedVariables false
open Bk (Fo)
set_option maxRecDepth 100000 in
set_option maxHeartbeats 8000000 in
theorem rtext_fresh (N b : Nat) (W col : Int) (nn0 : Nat) (fl : Bool) (out s : ByteArray) (n : Int) (v : Value) (w : World) (h : RtAt N b W ⟨out, col, false⟩ w) (hz : out.size + nn0 + s.size ≤ 100000000) (h0 : 0 < s.size) (hg : ∃ m, Bk.Gd s m) (hv : ∃ a L cp, v = .slice a L cp) :
    Calls Try.prog 26 #[.pointer (some ⟨b, 0, none⟩), .agg #[.int .i64 1, .string s, .int .i64 n, v], .int .i64 nn0, .bool fl] w (RtPost N b W ⟨out ++ Bk.manyS 32 nn0 ++ s, nn0 + (Bk.widS s : Nat), true⟩ w) := by
  obtain ⟨a, L, cp, rfl⟩ := hv
  obtain ⟨m, hg⟩ := hg
  have HG := Lib.hid hg
  have hs1 : s.toList.isEmpty = false := some_text h0
  have hws := Bk.widS_le s
  have HLT := Lib.hid h.lt
  have HB := Lib.hid ((Below.refl w.heap.size w).alloc (Nat.le_refl _) (.cells #[.int .i64 1, .string s, .int .i64 n, .slice a L cp] 26))
  have HBX := Lib.hid (bx_new w 1 n s (.slice a L cp))
  have H0 := Lib.hid (h.below HB.out)
  obtain ⟨v, ⟨c0, c1, c2, c3, f0, f1, f2⟩, HH⟩ := H0.out.rcells
  have HS0 := Lib.hid (RStay.of_below HB.out HLT.out.1 HLT.out.2)
  have hne : w.heap.size ≠ b := by have := HLT.out; omega
  clear h hg
  go_enter Try.func26, Try.ntmps26
  go_wp2_with fail
  go_loopw [8] (fun i wr => ∃ j : Nat, j ≤ nn0 ∧ i = .int .i64 j ∧ Hid (RtAt N b W ⟨out ++ Bk.manyS 32 j, col, false⟩ wr) ∧ Hid (RStay N b w wr) ∧ Hid (Bx w.heap.size 1 s n (.slice a L cp) wr)) (fun i _ => nn0 - (intOf i).toNat)
  case atStart => exact ⟨0, by omega, rfl, Lib.hid (by show RtAt N b W ⟨out ++ ByteArray.empty, col, false⟩ _; rw [ByteArray.append_empty]; exact H0.out), HS0, HBX⟩
  case round =>
    obtain ⟨j, hj, rfl, HR, HS, HX⟩ := hrel
    clear c0 c1 c2 c3 f0 f1 f2
    obtain ⟨vr, ⟨c0, c1, c2, c3, f0, f1, f2⟩, HHr⟩ := HR.out.rcells
    obtain ⟨x0, x1, x2, x3⟩ := HX.out.cells
    have hmz := Bk.manyS_size 32 j
    by_cases hlt : j < nn0
    · have hz2 : (out ++ Bk.manyS 32 j).size ≤ 1000000000 := by rw [Bk.size_app]; omega
      have HZ2 := Lib.hid hz2
      clear hz2
      go_wp2_with (at_builtin; refine app_rb rfl _ _ rfl vr 32 32 rfl rfl HHr rfl HZ2.out (by rfl) ?_; rintro ao nn cp2 w1 ⟨d0, d1, d2, d3, g0, g1, g2⟩ H1 HST)
      go_roundw
      case rel => exact ⟨j + 1, by omega, by go_num, Lib.hid (by rw [Bk.manyS, ← ByteArray.append_assoc]; exact H1.out), Lib.hid (HS.out.trans (HST.out.1.trans (RStay.setCell HST.out.2 _ _))), Lib.hid ((HX.out.stay HST.out.1).stay (RStay.setCell (N := N) HST.out.2 _ _))⟩
      case measure => simp [intOf]; omega
    · obtain rfl : j = nn0 := by omega
      obtain ⟨o2, ho2⟩ : ∃ o2, o2 = out ++ Bk.manyS 32 j := ⟨_, rfl⟩
      have ho2z : o2.size = out.size + j := by rw [ho2, Bk.size_app, hmz]
      have HO2 := Lib.hid ho2
      rw [← ho2] at HR HHr ⊢
      clear ho2 hlt
      go_wp2_with fail
      obtain ⟨w4, hw4⟩ : ∃ w4, w4 = (wr.setCell ⟨b, 1, none⟩ (.int .i64 j)).setCell ⟨b, 2, none⟩ (.bool false) := ⟨_, rfl⟩
      rw [← hw4]
      have HI := HR.out.is59
      have H4 : Hid (RtAt N b W ⟨o2, j, true⟩ w4) := Lib.hid (by rw [hw4]; exact (HR.out.col j).beg false)
      have HS4 : Hid (RStay N b w w4) := Lib.hid (by rw [hw4]; exact (HS.out.trans (RStay.setCell HI _ _)).trans (RStay.setCell (HI.setCell _ _) _ _))
      have HX4 : Hid (Bx w.heap.size 1 s n (.slice a L cp) w4) := Lib.hid (by rw [hw4]; exact (HX.out.stay (RStay.setCell (N := N) HI _ _)).stay (RStay.setCell (N := N) (HI.setCell _ _) _ _))
      have HE : Hid (out ++ Bk.manyS 32 j ++ s = o2 ++ s) := Lib.hid (by rw [HO2.out])
      have HLT4 := Lib.hid H4.out.lt
      clear x0 x1 x2 x3 c0 c1 c2 c3 f0 f1 f2 hw4 HI
      obtain ⟨x0, x1, x2, x3⟩ := HX4.out.cells
      obtain ⟨v5, ⟨c0, c1, c2, c3, f0, f1, f2⟩, HH5⟩ := H4.out.rcells
      go_region_law (refine step_rs rfl (.tmp 49) (.tmp 51) rfl v5 s rfl rfl HH5 (by omega) (Below.drew (Below.refl _ _)) ?_; rintro ao nn cp2 w1 ⟨d0, d1, d2, d3, g0, g1, g2⟩ H1 HST; have HBX1 := Lib.hid (HX4.out.stay HST.out.1); obtain ⟨x0, x1, x2, x3⟩ := HBX1.out.cells)
      all_goals
        obtain ⟨w2, hw2⟩ : ∃ w2, w2 = w1.setCell ⟨b, 0, none⟩ (.slice ao nn cp2) := ⟨_, rfl⟩
        rw [← hw2]
        have H2 : Hid (RtAt N b W ⟨o2 ++ s, j, true⟩ w2) := Lib.hid (by rw [hw2]; exact H1.out)
        have HST2 : Hid (RStay N b w w2) := Lib.hid (by rw [hw2]; exact HS4.out.trans (HST.out.1.trans (RStay.setCell HST.out.2 _ _)))
        have HBX2 : Hid (Bx w.heap.size 1 s n (.slice a L cp) w2) := Lib.hid (by rw [hw2]; exact HBX1.out.stay (RStay.setCell (N := N) HST.out.2 _ _))
        clear d0 d1 d2 d3 g0 g1 g2 x0 x1 x2 x3 c0 c1 c2 c3 f0 f1 f2 hw2
        obtain ⟨x0, x1, x2, x3⟩ := HBX2.out.cells
        obtain ⟨v2, ⟨c0, c1, c2, c3, f0, f1, f2⟩, HH2⟩ := H2.out.rcells
        go_wp2_with fail
        go_region_with (go_at_call 23; refine (width23_any s m _ (by omega) HG.out).mono ?_; rintro e w3 ⟨rfl, hg⟩; have hb2 : Below w2.heap.size w2 w3 := (Below.drew (Below.refl _ w2)).trans hg; have H3 := Lib.hid (H2.out.below hb2); have HG3 := Lib.hid hb2; clear hg hb2; obtain ⟨v3, ⟨d0, d1, d2, d3, g0, g1, g2⟩, HH3⟩ := H3.out.rcells)
      all_goals
        go_wp2_with fail
        go_end0
        have hlt := H2.out.lt
        have hw : IntKind.i64.wrap ((j : Int) + (Bk.widS s : Nat)) = (j : Int) + (Bk.widS s : Nat) := IntWalk.i64_in _ (by omega)
        rw [hw]
        exact ⟨rfl, by rw [HE.out]; exact H3.out.col _, (HST2.out.trans (RStay.of_below HG3.out hlt.1 hlt.2)).trans (RStay.setCell H3.out.is59 _ _)⟩
theorem rtext_any (N b : Nat) (W col nest : Int) (bg fl : Bool) (out s : ByteArray) (n : Int) (a : Option Addr) (L cp : Nat) (w : World) (h : RtAt N b W ⟨out, col, bg⟩ w) (hk : Bk.Okd ⟨out, col, bg⟩) (hn : 0 ≤ nest) (hn1 : nest ≤ 1000) (hz : out.size + 1000 + s.size ≤ 100000000) (hg : ∃ m, Bk.Gd s m) :
    Calls Try.prog 26 #[.pointer (some ⟨b, 0, none⟩), .agg #[.int .i64 1, .string s, .int .i64 n, .slice a L cp], .int .i64 nest, .bool fl] w (RtPost N b W (Bk.txtS ⟨out, col, bg⟩ s nest) w) := by
  obtain ⟨h0, h1⟩ := hk
  have h0 : 0 ≤ col := h0
  have h1 : col ≤ out.size := h1
  unfold Bk.txtS
  by_cases hs : s.size = 0
  · rw [if_pos hs]; exact rtext_none N b W col nest bg fl out s n _ w h hs ⟨a, L, cp, rfl⟩
  · rw [if_neg hs]
    cases bg with
    | true => exact rtext_begun N b W col nest fl out s n _ w h (by omega) (by omega) hg ⟨h0, by omega⟩ ⟨a, L, cp, rfl⟩
    | false =>
      obtain ⟨m, rfl⟩ : ∃ m : Nat, nest = m := ⟨nest.toNat, by omega⟩
      exact rtext_fresh N b W col m fl out s n _ w h (by omega) (by omega) hg ⟨a, L, cp, rfl⟩
end Go.Proofs.Ythkpoiideiimaaa
