/- The reference's teller: lay of a list; Lay: contracts. -/
import Derived.Test.YthkpoiideiimaaaRef6
namespace Go.Proofs.Ythkpoiideiimaaa
open Go Go.RowKit Go.PlainAid
set_option linter.unusedVariables false
open Bk (Fo)
set_option maxRecDepth 100000 in
set_option maxHeartbeats 8000000 in
theorem rlay_cat (n : Int) (t : ByteArray) (kids : Fo) (hA : RlAll kids) (hn0 : 0 ≤ n ∧ n ≤ 10000) (N b : Nat) (W col nest : Int) (bg fl : Bool) (out : ByteArray) (a : Option Addr) (cp : Nat) (w : World) (hT : RtAt N b W ⟨out, col, bg⟩ w) (hs : SlAt w (fun i => i < N ∧ i ≠ b) a kids) (hO : Bk.Okd ⟨out, col, bg⟩)
    (hn : 0 ≤ nest) (hm : nest + Bk.nstF kids ≤ 1000) (hz : out.size + 1001 * Bk.costF kids ≤ 99000000) (hW : 0 ≤ W ∧ W ≤ 9223372036854775807) :
    Calls Try.prog 26 #[.pointer (some ⟨b, 0, none⟩), .agg #[.int .i64 5, .string t, .int .i64 n, .slice a kids.len cp], .int .i64 nest, .bool fl] w (RtPost N b W (Bk.tellF W kids (nest) fl ⟨out, col, bg⟩) w) := by
  obtain ⟨hn0, hn1⟩ := hn0
  obtain ⟨L, hL⟩ : ∃ L, kids.len = L := ⟨_, rfl⟩
  have hlen : L ≤ 100000000 := by have := Bk.len_cost kids; omega
  rw [hL]
  obtain ⟨M, hM⟩ : ∃ M, M = Bk.costF kids := ⟨_, rfl⟩
  obtain ⟨X, hX⟩ : ∃ X, X = Bk.nstF kids := ⟨_, rfl⟩
  rw [← hM] at hz
  rw [← hX] at hm
  obtain ⟨hW0, hW1⟩ := hW
  have hc0 : 0 ≤ col := hO.c0
  have hc1 : col ≤ out.size := hO.c1
  have HL := Lib.hid hL
  have HM := Lib.hid hM
  have HX := Lib.hid hX
  have HO := Lib.hid hO
  have HS := Lib.hid hs
  have HA := Lib.hid hA
  have HLT := Lib.hid hT.lt
  have HB := Lib.hid ((Below.refl w.heap.size w).alloc (Nat.le_refl _) (.cells #[.int .i64 5, .string t, .int .i64 n, .slice a L cp] 26))
  have HT := Lib.hid (hT.below HB.out)
  have HBX := Lib.hid (bx_new w 5 n t (.slice a L cp))
  have HST := Lib.hid (RStay.of_below HB.out HLT.out.1 HLT.out.2)
  have hne : w.heap.size ≠ b := by have := HLT.out; omega
  clear hL hM hX hT hO hs hA
  obtain ⟨R, hR⟩ : ∃ R, R = Bk.tellF W kids (nest) fl ⟨out, col, bg⟩ := ⟨_, rfl⟩
  rw [← hR]
  have HR := Lib.hid hR
  clear hR
  go_enter Try.func26, Try.ntmps26
  go_wp2_with fail
  go_loopw [12] (fun i wr => ∃ (P Q : Fo) (st : Bk.St), P.len ≤ L ∧ i = .int .i64 P.len ∧ nest + Bk.nstF Q ≤ 1000 ∧ st.out.size + 1001 * Bk.costF Q ≤ 99000000 ∧ Hid (kids = P.app Q) ∧ Hid (Bk.Okd st) ∧ Hid (R = Bk.tellF W Q (nest) fl st) ∧ Hid (RtAt N b W st wr) ∧ Hid (RStay N b w wr) ∧ Hid (Bx w.heap.size 5 t n (.slice a L cp) wr)) (fun i _ => L - (intOf i).toNat)
  case atStart => exact ⟨.nil, kids, ⟨out, col, _⟩, by simp [Fo.len], rfl, by rw [← HX.out]; omega, by rw [← HM.out]; exact hz, Lib.hid rfl, HO, HR, HT, HST, HBX⟩
  case round =>
    obtain ⟨P, Q, ⟨out1, col1, bg1⟩, hPL, rfl, hmQ, hzQ, HF, HOK, HRQ, HTR, HSW, HC⟩ := hrel
    obtain ⟨y0, y1, y2, y3⟩ := HC.out.cells
    cases Q with
    | nil =>
      have hPl : P.len = L := by rw [← HL.out, HF.out, Fo.app_nil]
      obtain ⟨m, hm⟩ : ∃ m, m = P.len := ⟨_, rfl⟩
      rw [← hm] at hPL hPl ⊢
      have hml : ¬ m < L := by omega
      clear hPl hm
      go_wp2_with fail
      go_end0
      exact ⟨rfl, by rw [HRQ.out]; exact HTR.out, HSW.out⟩
    | cons kd tt nn kk Q =>
      have hlt : P.len < L := by
        have h1 := congrArg Fo.len HF.out
        rw [Fo.app_len, HL.out] at h1
        simp only [Fo.len] at h1
        omega
      rcases HS.out with h0 | ⟨b2, off, rfl, hb, hok, hr⟩
      · have := HL.out; omega
      rw [HF.out] at hr
      obtain ⟨c0, c1, c2, ⟨a3, cp3, c3, hk3⟩, hrest⟩ := row_app hr
      clear hrest
      have hcell : ∀ o, wr.cell? ⟨b2, o, none⟩ = w.cell? ⟨b2, o, none⟩ := fun o => World.cell?_of_block (HSW.out.block b2 hok.1 hok.2)
      rw [← hcell] at c0 c1 c2 c3
      clear hcell hr
      have HSK : Hid (SlAt wr (fun i => i < N ∧ i ≠ b) a3 kk) := Lib.hid (SlAt.agree hk3 (rstay_agree HSW.out))
      have hta := rlAll_app (P := P) (Q := .cons kd tt nn kk Q) (by have := HA.out; rw [HF.out] at this; exact this)
      have HTN := Lib.hid hta.1
      clear hta hk3 hok
      simp only [Bk.costF] at hzQ
      simp only [Bk.nstF] at hmQ
      have HF2 : Hid (kids = (P.app (.cons kd tt nn kk .nil)).app Q) := Lib.hid (by rw [HF.out, Fo.app_assoc]; rfl)
      have HPL : Hid ((P.app (.cons kd tt nn kk .nil)).len = P.len + 1) := Lib.hid (by rw [Fo.app_len]; rfl)
      have hnk := Bk.node_ok W (k := kd) (n := nn) (t := tt) (kids := kk) (nest := nest) (fl := fl) HOK.out (by omega) (by omega)
      have HOK2 := Lib.hid hnk.1
      have hz2 : (Bk.nodeF W kd tt nn kk (nest) fl ⟨out1, col1, bg1⟩).out.size ≤ out1.size + 1001 * (tt.size + 1 + Bk.costF kk) := hnk.2
      have hzQ : out1.size + 1001 * (tt.size + 1 + Bk.costF kk + Bk.costF Q) ≤ 99000000 := hzQ
      clear hnk
      have HR2 : Hid (R = Bk.tellF W Q (nest) fl (Bk.nodeF W kd tt nn kk (nest) fl ⟨out1, col1, bg1⟩)) := Lib.hid (by rw [HRQ.out, Bk.tell_cons])
      obtain ⟨st2, hst2⟩ : ∃ st2, st2 = Bk.nodeF W kd tt nn kk (nest) fl ⟨out1, col1, bg1⟩ := ⟨_, rfl⟩
      rw [← hst2] at hz2 HOK2 HR2
      have HS2 := Lib.hid hst2
      clear hst2
      go_wp2_with (go_at_call 26; refine (HTN.out N b W col1 (nest) bg1 fl out1 a3 cp3 wr HTR.out HSK.out HOK.out (by omega) (by omega) (by omega) ⟨hW0, hW1⟩).mono ?_; rintro e w2 ⟨rfl, h1, h2⟩; rw [← HS2.out] at h1; have HT2 := Lib.hid h1; have HSW2 := Lib.hid (HSW.out.trans h2); have HC2 := Lib.hid (HC.out.stay h2); clear h1 h2)
      go_roundw
      case rel => exact ⟨P.app (.cons kd tt nn kk .nil), Q, st2, by rw [HPL.out]; omega, by rw [HPL.out]; go_num, by omega, by omega, HF2, HOK2, HR2, HT2, HSW2, HC2⟩
      case measure => simp [intOf]; omega
set_option maxRecDepth 100000 in
set_option maxHeartbeats 8000000 in
theorem rlay_nest (n : Int) (t : ByteArray) (kids : Fo) (hA : RlAll kids) (hn0 : 0 ≤ n ∧ n ≤ 10000) (N b : Nat) (W col nest : Int) (bg fl : Bool) (out : ByteArray) (a : Option Addr) (cp : Nat) (w : World) (hT : RtAt N b W ⟨out, col, bg⟩ w) (hs : SlAt w (fun i => i < N ∧ i ≠ b) a kids) (hO : Bk.Okd ⟨out, col, bg⟩)
    (hn : 0 ≤ nest) (hm : nest + n + Bk.nstF kids ≤ 1000) (hz : out.size + 1001 * Bk.costF kids ≤ 99000000) (hW : 0 ≤ W ∧ W ≤ 9223372036854775807) :
    Calls Try.prog 26 #[.pointer (some ⟨b, 0, none⟩), .agg #[.int .i64 6, .string t, .int .i64 n, .slice a kids.len cp], .int .i64 nest, .bool fl] w (RtPost N b W (Bk.tellF W kids (nest + n) fl ⟨out, col, bg⟩) w) := by
  obtain ⟨hn0, hn1⟩ := hn0
  obtain ⟨L, hL⟩ : ∃ L, kids.len = L := ⟨_, rfl⟩
  have hlen : L ≤ 100000000 := by have := Bk.len_cost kids; omega
  rw [hL]
  obtain ⟨M, hM⟩ : ∃ M, M = Bk.costF kids := ⟨_, rfl⟩
  obtain ⟨X, hX⟩ : ∃ X, X = Bk.nstF kids := ⟨_, rfl⟩
  rw [← hM] at hz
  rw [← hX] at hm
  obtain ⟨hW0, hW1⟩ := hW
  have hc0 : 0 ≤ col := hO.c0
  have hc1 : col ≤ out.size := hO.c1
  have HL := Lib.hid hL
  have HM := Lib.hid hM
  have HX := Lib.hid hX
  have HO := Lib.hid hO
  have HS := Lib.hid hs
  have HA := Lib.hid hA
  have HLT := Lib.hid hT.lt
  have HB := Lib.hid ((Below.refl w.heap.size w).alloc (Nat.le_refl _) (.cells #[.int .i64 6, .string t, .int .i64 n, .slice a L cp] 26))
  have HT := Lib.hid (hT.below HB.out)
  have HBX := Lib.hid (bx_new w 6 n t (.slice a L cp))
  have HST := Lib.hid (RStay.of_below HB.out HLT.out.1 HLT.out.2)
  have hne : w.heap.size ≠ b := by have := HLT.out; omega
  clear hL hM hX hT hO hs hA
  obtain ⟨R, hR⟩ : ∃ R, R = Bk.tellF W kids (nest + n) fl ⟨out, col, bg⟩ := ⟨_, rfl⟩
  rw [← hR]
  have HR := Lib.hid hR
  clear hR
  have hmx : max 0 (min n 10000) = n := by omega
  go_enter Try.func26, Try.ntmps26
  go_wp2_with fail
  go_loopw [12] (fun i wr => ∃ (P Q : Fo) (st : Bk.St), P.len ≤ L ∧ i = .int .i64 P.len ∧ nest + n + Bk.nstF Q ≤ 1000 ∧ st.out.size + 1001 * Bk.costF Q ≤ 99000000 ∧ Hid (kids = P.app Q) ∧ Hid (Bk.Okd st) ∧ Hid (R = Bk.tellF W Q (nest + n) fl st) ∧ Hid (RtAt N b W st wr) ∧ Hid (RStay N b w wr) ∧ Hid (Bx w.heap.size 6 t n (.slice a L cp) wr)) (fun i _ => L - (intOf i).toNat)
  case atStart => exact ⟨.nil, kids, ⟨out, col, _⟩, by simp [Fo.len], rfl, by rw [← HX.out]; omega, by rw [← HM.out]; exact hz, Lib.hid rfl, HO, HR, HT, HST, HBX⟩
  case round =>
    obtain ⟨P, Q, ⟨out1, col1, bg1⟩, hPL, rfl, hmQ, hzQ, HF, HOK, HRQ, HTR, HSW, HC⟩ := hrel
    obtain ⟨y0, y1, y2, y3⟩ := HC.out.cells
    cases Q with
    | nil =>
      have hPl : P.len = L := by rw [← HL.out, HF.out, Fo.app_nil]
      obtain ⟨m, hm⟩ : ∃ m, m = P.len := ⟨_, rfl⟩
      rw [← hm] at hPL hPl ⊢
      have hml : ¬ m < L := by omega
      clear hPl hm
      go_wp2_with fail
      go_end0
      exact ⟨rfl, by rw [HRQ.out]; exact HTR.out, HSW.out⟩
    | cons kd tt nn kk Q =>
      have hlt : P.len < L := by
        have h1 := congrArg Fo.len HF.out
        rw [Fo.app_len, HL.out] at h1
        simp only [Fo.len] at h1
        omega
      rcases HS.out with h0 | ⟨b2, off, rfl, hb, hok, hr⟩
      · have := HL.out; omega
      rw [HF.out] at hr
      obtain ⟨c0, c1, c2, ⟨a3, cp3, c3, hk3⟩, hrest⟩ := row_app hr
      clear hrest
      have hcell : ∀ o, wr.cell? ⟨b2, o, none⟩ = w.cell? ⟨b2, o, none⟩ := fun o => World.cell?_of_block (HSW.out.block b2 hok.1 hok.2)
      rw [← hcell] at c0 c1 c2 c3
      clear hcell hr
      have HSK : Hid (SlAt wr (fun i => i < N ∧ i ≠ b) a3 kk) := Lib.hid (SlAt.agree hk3 (rstay_agree HSW.out))
      have hta := rlAll_app (P := P) (Q := .cons kd tt nn kk Q) (by have := HA.out; rw [HF.out] at this; exact this)
      have HTN := Lib.hid hta.1
      clear hta hk3 hok
      simp only [Bk.costF] at hzQ
      simp only [Bk.nstF] at hmQ
      have HF2 : Hid (kids = (P.app (.cons kd tt nn kk .nil)).app Q) := Lib.hid (by rw [HF.out, Fo.app_assoc]; rfl)
      have HPL : Hid ((P.app (.cons kd tt nn kk .nil)).len = P.len + 1) := Lib.hid (by rw [Fo.app_len]; rfl)
      have hnk := Bk.node_ok W (k := kd) (n := nn) (t := tt) (kids := kk) (nest := nest + n) (fl := fl) HOK.out (by omega) (by omega)
      have HOK2 := Lib.hid hnk.1
      have hz2 : (Bk.nodeF W kd tt nn kk (nest + n) fl ⟨out1, col1, bg1⟩).out.size ≤ out1.size + 1001 * (tt.size + 1 + Bk.costF kk) := hnk.2
      have hzQ : out1.size + 1001 * (tt.size + 1 + Bk.costF kk + Bk.costF Q) ≤ 99000000 := hzQ
      clear hnk
      have HR2 : Hid (R = Bk.tellF W Q (nest + n) fl (Bk.nodeF W kd tt nn kk (nest + n) fl ⟨out1, col1, bg1⟩)) := Lib.hid (by rw [HRQ.out, Bk.tell_cons])
      obtain ⟨st2, hst2⟩ : ∃ st2, st2 = Bk.nodeF W kd tt nn kk (nest + n) fl ⟨out1, col1, bg1⟩ := ⟨_, rfl⟩
      rw [← hst2] at hz2 HOK2 HR2
      have HS2 := Lib.hid hst2
      clear hst2
      go_wp2_with (go_at_call 26; refine (HTN.out N b W col1 (nest + n) bg1 fl out1 a3 cp3 wr HTR.out HSK.out HOK.out (by omega) (by omega) (by omega) ⟨hW0, hW1⟩).mono ?_; rintro e w2 ⟨rfl, h1, h2⟩; rw [← HS2.out] at h1; have HT2 := Lib.hid h1; have HSW2 := Lib.hid (HSW.out.trans h2); have HC2 := Lib.hid (HC.out.stay h2); clear h1 h2)
      go_roundw
      case rel => exact ⟨P.app (.cons kd tt nn kk .nil), Q, st2, by rw [HPL.out]; omega, by rw [HPL.out]; go_num, by omega, by omega, HF2, HOK2, HR2, HT2, HSW2, HC2⟩
      case measure => simp [intOf]; omega
set_option maxRecDepth 100000 in
set_option maxHeartbeats 8000000 in
theorem rlay_flat (n : Int) (t : ByteArray) (kids : Fo) (hA : RlAll kids) (hn0 : 0 ≤ n ∧ n ≤ 10000) (N b : Nat) (W col nest : Int) (bg : Bool) (out : ByteArray) (a : Option Addr) (cp : Nat) (w : World) (hT : RtAt N b W ⟨out, col, bg⟩ w) (hs : SlAt w (fun i => i < N ∧ i ≠ b) a kids) (hO : Bk.Okd ⟨out, col, bg⟩)
    (hn : 0 ≤ nest) (hm : nest + Bk.nstF kids ≤ 1000) (hz : out.size + 1001 * Bk.costF kids ≤ 99000000) (hW : 0 ≤ W ∧ W ≤ 9223372036854775807) :
    Calls Try.prog 26 #[.pointer (some ⟨b, 0, none⟩), .agg #[.int .i64 7, .string t, .int .i64 n, .slice a kids.len cp], .int .i64 nest, .bool true] w (RtPost N b W (Bk.tellF W kids (nest) true ⟨out, col, bg⟩) w) := by
  obtain ⟨hn0, hn1⟩ := hn0
  obtain ⟨L, hL⟩ : ∃ L, kids.len = L := ⟨_, rfl⟩
  have hlen : L ≤ 100000000 := by have := Bk.len_cost kids; omega
  rw [hL]
  obtain ⟨M, hM⟩ : ∃ M, M = Bk.costF kids := ⟨_, rfl⟩
  obtain ⟨X, hX⟩ : ∃ X, X = Bk.nstF kids := ⟨_, rfl⟩
  rw [← hM] at hz
  rw [← hX] at hm
  obtain ⟨hW0, hW1⟩ := hW
  have hc0 : 0 ≤ col := hO.c0
  have hc1 : col ≤ out.size := hO.c1
  have HL := Lib.hid hL
  have HM := Lib.hid hM
  have HX := Lib.hid hX
  have HO := Lib.hid hO
  have HS := Lib.hid hs
  have HA := Lib.hid hA
  have HLT := Lib.hid hT.lt
  have HB := Lib.hid ((Below.refl w.heap.size w).alloc (Nat.le_refl _) (.cells #[.int .i64 7, .string t, .int .i64 n, .slice a L cp] 26))
  have HT := Lib.hid (hT.below HB.out)
  have HBX := Lib.hid (bx_new w 7 n t (.slice a L cp))
  have HST := Lib.hid (RStay.of_below HB.out HLT.out.1 HLT.out.2)
  have hne : w.heap.size ≠ b := by have := HLT.out; omega
  clear hL hM hX hT hO hs hA
  obtain ⟨R, hR⟩ : ∃ R, R = Bk.tellF W kids (nest) true ⟨out, col, bg⟩ := ⟨_, rfl⟩
  rw [← hR]
  have HR := Lib.hid hR
  clear hR
  go_enter Try.func26, Try.ntmps26
  go_wp2_with fail
  go_loopw [12] (fun i wr => ∃ (P Q : Fo) (st : Bk.St), P.len ≤ L ∧ i = .int .i64 P.len ∧ nest + Bk.nstF Q ≤ 1000 ∧ st.out.size + 1001 * Bk.costF Q ≤ 99000000 ∧ Hid (kids = P.app Q) ∧ Hid (Bk.Okd st) ∧ Hid (R = Bk.tellF W Q (nest) true st) ∧ Hid (RtAt N b W st wr) ∧ Hid (RStay N b w wr) ∧ Hid (Bx w.heap.size 7 t n (.slice a L cp) wr)) (fun i _ => L - (intOf i).toNat)
  case atStart => exact ⟨.nil, kids, ⟨out, col, _⟩, by simp [Fo.len], rfl, by rw [← HX.out]; omega, by rw [← HM.out]; exact hz, Lib.hid rfl, HO, HR, HT, HST, HBX⟩
  case round =>
    obtain ⟨P, Q, ⟨out1, col1, bg1⟩, hPL, rfl, hmQ, hzQ, HF, HOK, HRQ, HTR, HSW, HC⟩ := hrel
    obtain ⟨y0, y1, y2, y3⟩ := HC.out.cells
    cases Q with
    | nil =>
      have hPl : P.len = L := by rw [← HL.out, HF.out, Fo.app_nil]
      obtain ⟨m, hm⟩ : ∃ m, m = P.len := ⟨_, rfl⟩
      rw [← hm] at hPL hPl ⊢
      have hml : ¬ m < L := by omega
      clear hPl hm
      go_wp2_with fail
      go_end0
      exact ⟨rfl, by rw [HRQ.out]; exact HTR.out, HSW.out⟩
    | cons kd tt nn kk Q =>
      have hlt : P.len < L := by
        have h1 := congrArg Fo.len HF.out
        rw [Fo.app_len, HL.out] at h1
        simp only [Fo.len] at h1
        omega
      rcases HS.out with h0 | ⟨b2, off, rfl, hb, hok, hr⟩
      · have := HL.out; omega
      rw [HF.out] at hr
      obtain ⟨c0, c1, c2, ⟨a3, cp3, c3, hk3⟩, hrest⟩ := row_app hr
      clear hrest
      have hcell : ∀ o, wr.cell? ⟨b2, o, none⟩ = w.cell? ⟨b2, o, none⟩ := fun o => World.cell?_of_block (HSW.out.block b2 hok.1 hok.2)
      rw [← hcell] at c0 c1 c2 c3
      clear hcell hr
      have HSK : Hid (SlAt wr (fun i => i < N ∧ i ≠ b) a3 kk) := Lib.hid (SlAt.agree hk3 (rstay_agree HSW.out))
      have hta := rlAll_app (P := P) (Q := .cons kd tt nn kk Q) (by have := HA.out; rw [HF.out] at this; exact this)
      have HTN := Lib.hid hta.1
      clear hta hk3 hok
      simp only [Bk.costF] at hzQ
      simp only [Bk.nstF] at hmQ
      have HF2 : Hid (kids = (P.app (.cons kd tt nn kk .nil)).app Q) := Lib.hid (by rw [HF.out, Fo.app_assoc]; rfl)
      have HPL : Hid ((P.app (.cons kd tt nn kk .nil)).len = P.len + 1) := Lib.hid (by rw [Fo.app_len]; rfl)
      have hnk := Bk.node_ok W (k := kd) (n := nn) (t := tt) (kids := kk) (nest := nest) (fl := true) HOK.out (by omega) (by omega)
      have HOK2 := Lib.hid hnk.1
      have hz2 : (Bk.nodeF W kd tt nn kk (nest) true ⟨out1, col1, bg1⟩).out.size ≤ out1.size + 1001 * (tt.size + 1 + Bk.costF kk) := hnk.2
      have hzQ : out1.size + 1001 * (tt.size + 1 + Bk.costF kk + Bk.costF Q) ≤ 99000000 := hzQ
      clear hnk
      have HR2 : Hid (R = Bk.tellF W Q (nest) true (Bk.nodeF W kd tt nn kk (nest) true ⟨out1, col1, bg1⟩)) := Lib.hid (by rw [HRQ.out, Bk.tell_cons])
      obtain ⟨st2, hst2⟩ : ∃ st2, st2 = Bk.nodeF W kd tt nn kk (nest) true ⟨out1, col1, bg1⟩ := ⟨_, rfl⟩
      rw [← hst2] at hz2 HOK2 HR2
      have HS2 := Lib.hid hst2
      clear hst2
      go_wp2_with (go_at_call 26; refine (HTN.out N b W col1 (nest) bg1 true out1 a3 cp3 wr HTR.out HSK.out HOK.out (by omega) (by omega) (by omega) ⟨hW0, hW1⟩).mono ?_; rintro e w2 ⟨rfl, h1, h2⟩; rw [← HS2.out] at h1; have HT2 := Lib.hid h1; have HSW2 := Lib.hid (HSW.out.trans h2); have HC2 := Lib.hid (HC.out.stay h2); clear h1 h2)
      go_roundw
      case rel => exact ⟨P.app (.cons kd tt nn kk .nil), Q, st2, by rw [HPL.out]; omega, by rw [HPL.out]; go_num, by omega, by omega, HF2, HOK2, HR2, HT2, HSW2, HC2⟩
      case measure => simp [intOf]; omega
set_option maxRecDepth 100000 in
set_option maxHeartbeats 8000000 in
theorem rlay_group (n : Int) (t : ByteArray) (kids : Fo) (hG : Bk.GoodF (.cons 7 t n kids .nil)) (hcc : t.size + 1 + Bk.costF kids ≤ 100000000) (hA : RlAll kids) (hn0 : 0 ≤ n ∧ n ≤ 10000) (N b : Nat) (W col nest : Int) (bg q : Bool) (out : ByteArray) (a : Option Addr) (cp : Nat) (w : World) (hT : RtAt N b W ⟨out, col, bg⟩ w) (hs : SlAt w (fun i => i < N ∧ i ≠ b) a kids) (hO : Bk.Okd ⟨out, col, bg⟩)
    (hn : 0 ≤ nest) (hm : nest + Bk.nstF kids ≤ 1000) (hz : out.size + 1001 * Bk.costF kids ≤ 99000000) (hW : 0 ≤ W ∧ W ≤ 9223372036854775807) (hq : q = Bk.fitsB W kids nest ⟨out, col, bg⟩) :
    Calls Try.prog 26 #[.pointer (some ⟨b, 0, none⟩), .agg #[.int .i64 7, .string t, .int .i64 n, .slice a kids.len cp], .int .i64 nest, .bool false] w (RtPost N b W (Bk.tellF W kids (nest) q ⟨out, col, bg⟩) w) := by
  obtain ⟨hn0, hn1⟩ := hn0
  obtain ⟨L, hL⟩ : ∃ L, kids.len = L := ⟨_, rfl⟩
  have hlen : L ≤ 100000000 := by have := Bk.len_cost kids; omega
  rw [hL]
  obtain ⟨M, hM⟩ : ∃ M, M = Bk.costF kids := ⟨_, rfl⟩
  obtain ⟨X, hX⟩ : ∃ X, X = Bk.nstF kids := ⟨_, rfl⟩
  rw [← hM] at hz
  rw [← hX] at hm
  obtain ⟨hW0, hW1⟩ := hW
  have hc0 : 0 ≤ col := hO.c0
  have hc1 : col ≤ out.size := hO.c1
  have HL := Lib.hid hL
  have HM := Lib.hid hM
  have HX := Lib.hid hX
  have HO := Lib.hid hO
  have HS := Lib.hid hs
  have HA := Lib.hid hA
  have HLT := Lib.hid hT.lt
  have HB := Lib.hid ((Below.refl w.heap.size w).alloc (Nat.le_refl _) (.cells #[.int .i64 7, .string t, .int .i64 n, .slice a L cp] 26))
  have HT := Lib.hid (hT.below HB.out)
  have HBX := Lib.hid (bx_new w 7 n t (.slice a L cp))
  have HST := Lib.hid (RStay.of_below HB.out HLT.out.1 HLT.out.2)
  have hne : w.heap.size ≠ b := by have := HLT.out; omega
  clear hL hM hX hT hO hs hA
  have HSW0 := Lib.hid (SlAt.below (HS.out.weak (ok' := fun _ => True) (fun _ _ _ => trivial)) HB.out)
  have HGK := Lib.hid hG
  have HCK := Lib.hid hcc
  have HW1 : Hid (Bk.nodeW 7 t kids = Bk.widF kids) := Lib.hid rfl
  have HQ : Hid (q = Bk.fitsB W kids nest ⟨out, col, bg⟩) := Lib.hid hq
  clear hG hcc hq
  obtain ⟨R, hR⟩ : ∃ R, R = Bk.tellF W kids (nest) q ⟨out, col, bg⟩ := ⟨_, rfl⟩
  rw [← hR]
  have HR := Lib.hid hR
  clear hR
  cases hwk : Bk.widF kids with
  | none =>
    have hqf : q = false := by rw [HQ.out]; unfold Bk.fitsB; rw [hwk]
    subst hqf
    have HK : Hid (Bk.nodeW 7 t kids = none) := Lib.hid (HW1.out.trans hwk)
    clear hwk HQ HW1
    cases bg with
    | true =>
      go_enter Try.func26, Try.ntmps26
      go_wp2_with (go_at_call 13; refine (rwide_at 7 n t kids a cp L none _ HL.out HK.out HSW0.out HGK.out HCK.out).mono ?_; rintro e w1 ⟨rfl, hg⟩; have HT1 := Lib.hid (HT.out.below hg); have HST1 := Lib.hid (HST.out.trans (RStay.of_below hg HT.out.lt.1 HT.out.lt.2)); have HX1 : Hid (Bx w.heap.size 7 t n (.slice a L cp) w1) := Lib.hid ((hg.block w.heap.size (by simp)).trans HBX.out); clear hg; obtain ⟨y0, y1, y2, y3⟩ := HX1.out.cells; obtain ⟨v1, ⟨c0, c1, c2, c3, f0, f1, f2⟩, HH1⟩ := HT1.out.rcells)
      go_loopw [12] (fun i wr => ∃ (P Q : Fo) (st : Bk.St), P.len ≤ L ∧ i = .int .i64 P.len ∧ nest + Bk.nstF Q ≤ 1000 ∧ st.out.size + 1001 * Bk.costF Q ≤ 99000000 ∧ Hid (kids = P.app Q) ∧ Hid (Bk.Okd st) ∧ Hid (R = Bk.tellF W Q (nest) false st) ∧ Hid (RtAt N b W st wr) ∧ Hid (RStay N b w wr) ∧ Hid (Bx w.heap.size 7 t n (.slice a L cp) wr)) (fun i _ => L - (intOf i).toNat)
      case atStart => exact ⟨.nil, kids, ⟨out, col, _⟩, by simp [Fo.len], rfl, by rw [← HX.out]; omega, by rw [← HM.out]; exact hz, Lib.hid rfl, HO, HR, HT1, HST1, HX1⟩
      case round =>
        obtain ⟨P, Q, ⟨out1, col1, bg1⟩, hPL, rfl, hmQ, hzQ, HF, HOK, HRQ, HTR, HSW, HC⟩ := hrel
        obtain ⟨y0, y1, y2, y3⟩ := HC.out.cells
        cases Q with
        | nil =>
          have hPl : P.len = L := by rw [← HL.out, HF.out, Fo.app_nil]
          obtain ⟨m, hm⟩ : ∃ m, m = P.len := ⟨_, rfl⟩
          rw [← hm] at hPL hPl ⊢
          have hml : ¬ m < L := by omega
          clear hPl hm
          go_wp2_with fail
          go_end0
          exact ⟨rfl, by rw [HRQ.out]; exact HTR.out, HSW.out⟩
        | cons kd tt nn kk Q =>
          have hlt : P.len < L := by
            have h1 := congrArg Fo.len HF.out
            rw [Fo.app_len, HL.out] at h1
            simp only [Fo.len] at h1
            omega
          rcases HS.out with h0 | ⟨b2, off, rfl, hb, hok, hr⟩
          · have := HL.out; omega
          rw [HF.out] at hr
          obtain ⟨c0, c1, c2, ⟨a3, cp3, c3, hk3⟩, hrest⟩ := row_app hr
          clear hrest
          have hcell : ∀ o, wr.cell? ⟨b2, o, none⟩ = w.cell? ⟨b2, o, none⟩ := fun o => World.cell?_of_block (HSW.out.block b2 hok.1 hok.2)
          rw [← hcell] at c0 c1 c2 c3
          clear hcell hr
          have HSK : Hid (SlAt wr (fun i => i < N ∧ i ≠ b) a3 kk) := Lib.hid (SlAt.agree hk3 (rstay_agree HSW.out))
          have hta := rlAll_app (P := P) (Q := .cons kd tt nn kk Q) (by have := HA.out; rw [HF.out] at this; exact this)
          have HTN := Lib.hid hta.1
          clear hta hk3 hok
          simp only [Bk.costF] at hzQ
          simp only [Bk.nstF] at hmQ
          have HF2 : Hid (kids = (P.app (.cons kd tt nn kk .nil)).app Q) := Lib.hid (by rw [HF.out, Fo.app_assoc]; rfl)
          have HPL : Hid ((P.app (.cons kd tt nn kk .nil)).len = P.len + 1) := Lib.hid (by rw [Fo.app_len]; rfl)
          have hnk := Bk.node_ok W (k := kd) (n := nn) (t := tt) (kids := kk) (nest := nest) (fl := false) HOK.out (by omega) (by omega)
          have HOK2 := Lib.hid hnk.1
          have hz2 : (Bk.nodeF W kd tt nn kk (nest) false ⟨out1, col1, bg1⟩).out.size ≤ out1.size + 1001 * (tt.size + 1 + Bk.costF kk) := hnk.2
          have hzQ : out1.size + 1001 * (tt.size + 1 + Bk.costF kk + Bk.costF Q) ≤ 99000000 := hzQ
          clear hnk
          have HR2 : Hid (R = Bk.tellF W Q (nest) false (Bk.nodeF W kd tt nn kk (nest) false ⟨out1, col1, bg1⟩)) := Lib.hid (by rw [HRQ.out, Bk.tell_cons])
          obtain ⟨st2, hst2⟩ : ∃ st2, st2 = Bk.nodeF W kd tt nn kk (nest) false ⟨out1, col1, bg1⟩ := ⟨_, rfl⟩
          rw [← hst2] at hz2 HOK2 HR2
          have HS2 := Lib.hid hst2
          clear hst2
          go_wp2_with (go_at_call 26; refine (HTN.out N b W col1 (nest) bg1 false out1 a3 cp3 wr HTR.out HSK.out HOK.out (by omega) (by omega) (by omega) ⟨hW0, hW1⟩).mono ?_; rintro e w2 ⟨rfl, h1, h2⟩; rw [← HS2.out] at h1; have HT2 := Lib.hid h1; have HSW2 := Lib.hid (HSW.out.trans h2); have HC2 := Lib.hid (HC.out.stay h2); clear h1 h2)
          go_roundw
          case rel => exact ⟨P.app (.cons kd tt nn kk .nil), Q, st2, by rw [HPL.out]; omega, by rw [HPL.out]; go_num, by omega, by omega, HF2, HOK2, HR2, HT2, HSW2, HC2⟩
          case measure => simp [intOf]; omega
    | false =>
      go_enter Try.func26, Try.ntmps26
      go_wp2_with (go_at_call 13; refine (rwide_at 7 n t kids a cp L none _ HL.out HK.out HSW0.out HGK.out HCK.out).mono ?_; rintro e w1 ⟨rfl, hg⟩; have HT1 := Lib.hid (HT.out.below hg); have HST1 := Lib.hid (HST.out.trans (RStay.of_below hg HT.out.lt.1 HT.out.lt.2)); have HX1 : Hid (Bx w.heap.size 7 t n (.slice a L cp) w1) := Lib.hid ((hg.block w.heap.size (by simp)).trans HBX.out); clear hg; obtain ⟨y0, y1, y2, y3⟩ := HX1.out.cells; obtain ⟨v1, ⟨c0, c1, c2, c3, f0, f1, f2⟩, HH1⟩ := HT1.out.rcells)
      go_loopw [12] (fun i wr => ∃ (P Q : Fo) (st : Bk.St), P.len ≤ L ∧ i = .int .i64 P.len ∧ nest + Bk.nstF Q ≤ 1000 ∧ st.out.size + 1001 * Bk.costF Q ≤ 99000000 ∧ Hid (kids = P.app Q) ∧ Hid (Bk.Okd st) ∧ Hid (R = Bk.tellF W Q (nest) false st) ∧ Hid (RtAt N b W st wr) ∧ Hid (RStay N b w wr) ∧ Hid (Bx w.heap.size 7 t n (.slice a L cp) wr)) (fun i _ => L - (intOf i).toNat)
      case atStart => exact ⟨.nil, kids, ⟨out, col, _⟩, by simp [Fo.len], rfl, by rw [← HX.out]; omega, by rw [← HM.out]; exact hz, Lib.hid rfl, HO, HR, HT1, HST1, HX1⟩
      case round =>
        obtain ⟨P, Q, ⟨out1, col1, bg1⟩, hPL, rfl, hmQ, hzQ, HF, HOK, HRQ, HTR, HSW, HC⟩ := hrel
        obtain ⟨y0, y1, y2, y3⟩ := HC.out.cells
        cases Q with
        | nil =>
          have hPl : P.len = L := by rw [← HL.out, HF.out, Fo.app_nil]
          obtain ⟨m, hm⟩ : ∃ m, m = P.len := ⟨_, rfl⟩
          rw [← hm] at hPL hPl ⊢
          have hml : ¬ m < L := by omega
          clear hPl hm
          go_wp2_with fail
          go_end0
          exact ⟨rfl, by rw [HRQ.out]; exact HTR.out, HSW.out⟩
        | cons kd tt nn kk Q =>
          have hlt : P.len < L := by
            have h1 := congrArg Fo.len HF.out
            rw [Fo.app_len, HL.out] at h1
            simp only [Fo.len] at h1
            omega
          rcases HS.out with h0 | ⟨b2, off, rfl, hb, hok, hr⟩
          · have := HL.out; omega
          rw [HF.out] at hr
          obtain ⟨c0, c1, c2, ⟨a3, cp3, c3, hk3⟩, hrest⟩ := row_app hr
          clear hrest
          have hcell : ∀ o, wr.cell? ⟨b2, o, none⟩ = w.cell? ⟨b2, o, none⟩ := fun o => World.cell?_of_block (HSW.out.block b2 hok.1 hok.2)
          rw [← hcell] at c0 c1 c2 c3
          clear hcell hr
          have HSK : Hid (SlAt wr (fun i => i < N ∧ i ≠ b) a3 kk) := Lib.hid (SlAt.agree hk3 (rstay_agree HSW.out))
          have hta := rlAll_app (P := P) (Q := .cons kd tt nn kk Q) (by have := HA.out; rw [HF.out] at this; exact this)
          have HTN := Lib.hid hta.1
          clear hta hk3 hok
          simp only [Bk.costF] at hzQ
          simp only [Bk.nstF] at hmQ
          have HF2 : Hid (kids = (P.app (.cons kd tt nn kk .nil)).app Q) := Lib.hid (by rw [HF.out, Fo.app_assoc]; rfl)
          have HPL : Hid ((P.app (.cons kd tt nn kk .nil)).len = P.len + 1) := Lib.hid (by rw [Fo.app_len]; rfl)
          have hnk := Bk.node_ok W (k := kd) (n := nn) (t := tt) (kids := kk) (nest := nest) (fl := false) HOK.out (by omega) (by omega)
          have HOK2 := Lib.hid hnk.1
          have hz2 : (Bk.nodeF W kd tt nn kk (nest) false ⟨out1, col1, bg1⟩).out.size ≤ out1.size + 1001 * (tt.size + 1 + Bk.costF kk) := hnk.2
          have hzQ : out1.size + 1001 * (tt.size + 1 + Bk.costF kk + Bk.costF Q) ≤ 99000000 := hzQ
          clear hnk
          have HR2 : Hid (R = Bk.tellF W Q (nest) false (Bk.nodeF W kd tt nn kk (nest) false ⟨out1, col1, bg1⟩)) := Lib.hid (by rw [HRQ.out, Bk.tell_cons])
          obtain ⟨st2, hst2⟩ : ∃ st2, st2 = Bk.nodeF W kd tt nn kk (nest) false ⟨out1, col1, bg1⟩ := ⟨_, rfl⟩
          rw [← hst2] at hz2 HOK2 HR2
          have HS2 := Lib.hid hst2
          clear hst2
          go_wp2_with (go_at_call 26; refine (HTN.out N b W col1 (nest) bg1 false out1 a3 cp3 wr HTR.out HSK.out HOK.out (by omega) (by omega) (by omega) ⟨hW0, hW1⟩).mono ?_; rintro e w2 ⟨rfl, h1, h2⟩; rw [← HS2.out] at h1; have HT2 := Lib.hid h1; have HSW2 := Lib.hid (HSW.out.trans h2); have HC2 := Lib.hid (HC.out.stay h2); clear h1 h2)
          go_roundw
          case rel => exact ⟨P.app (.cons kd tt nn kk .nil), Q, st2, by rw [HPL.out]; omega, by rw [HPL.out]; go_num, by omega, by omega, HF2, HOK2, HR2, HT2, HSW2, HC2⟩
          case measure => simp [intOf]; omega
  | some v =>
    have HK : Hid (Bk.nodeW 7 t kids = some v) := Lib.hid (HW1.out.trans hwk)
    have hvc := Bk.wid_cost kids v hwk
    rw [← HM.out] at hvc
    have hvz : v ≤ 98902 := by omega
    clear hvc
    cases bg with
    | true =>
      have hqd : q = decide ((v : Int) ≤ W - col) := by rw [HQ.out]; unfold Bk.fitsB; rw [hwk]; rfl
      by_cases hle : (v : Int) + col ≤ W
      · have hqt : q = true := by rw [hqd]; exact decide_eq_true (by omega)
        subst hqt
        have hd := decide_eq_true hle
        clear hwk HQ HW1 hqd
        go_enter Try.func26, Try.ntmps26
        go_wp2_with (go_at_call 13; refine (rwide_at 7 n t kids a cp L (some v) _ HL.out HK.out HSW0.out HGK.out HCK.out).mono ?_; rintro e w1 ⟨rfl, hg⟩; have HT1 := Lib.hid (HT.out.below hg); have HST1 := Lib.hid (HST.out.trans (RStay.of_below hg HT.out.lt.1 HT.out.lt.2)); have HX1 : Hid (Bx w.heap.size 7 t n (.slice a L cp) w1) := Lib.hid ((hg.block w.heap.size (by simp)).trans HBX.out); clear hg; obtain ⟨y0, y1, y2, y3⟩ := HX1.out.cells; obtain ⟨v1, ⟨c0, c1, c2, c3, f0, f1, f2⟩, HH1⟩ := HT1.out.rcells)
        go_loopw [12] (fun i wr => ∃ (P Q : Fo) (st : Bk.St), P.len ≤ L ∧ i = .int .i64 P.len ∧ nest + Bk.nstF Q ≤ 1000 ∧ st.out.size + 1001 * Bk.costF Q ≤ 99000000 ∧ Hid (kids = P.app Q) ∧ Hid (Bk.Okd st) ∧ Hid (R = Bk.tellF W Q (nest) true st) ∧ Hid (RtAt N b W st wr) ∧ Hid (RStay N b w wr) ∧ Hid (Bx w.heap.size 7 t n (.slice a L cp) wr)) (fun i _ => L - (intOf i).toNat)
        case atStart => exact ⟨.nil, kids, ⟨out, col, _⟩, by simp [Fo.len], rfl, by rw [← HX.out]; omega, by rw [← HM.out]; exact hz, Lib.hid rfl, HO, HR, HT1, HST1, HX1⟩
        case round =>
          obtain ⟨P, Q, ⟨out1, col1, bg1⟩, hPL, rfl, hmQ, hzQ, HF, HOK, HRQ, HTR, HSW, HC⟩ := hrel
          obtain ⟨y0, y1, y2, y3⟩ := HC.out.cells
          cases Q with
          | nil =>
            have hPl : P.len = L := by rw [← HL.out, HF.out, Fo.app_nil]
            obtain ⟨m, hm⟩ : ∃ m, m = P.len := ⟨_, rfl⟩
            rw [← hm] at hPL hPl ⊢
            have hml : ¬ m < L := by omega
            clear hPl hm
            go_wp2_with fail
            go_end0
            exact ⟨rfl, by rw [HRQ.out]; exact HTR.out, HSW.out⟩
          | cons kd tt nn kk Q =>
            have hlt : P.len < L := by
              have h1 := congrArg Fo.len HF.out
              rw [Fo.app_len, HL.out] at h1
              simp only [Fo.len] at h1
              omega
            rcases HS.out with h0 | ⟨b2, off, rfl, hb, hok, hr⟩
            · have := HL.out; omega
            rw [HF.out] at hr
            obtain ⟨c0, c1, c2, ⟨a3, cp3, c3, hk3⟩, hrest⟩ := row_app hr
            clear hrest
            have hcell : ∀ o, wr.cell? ⟨b2, o, none⟩ = w.cell? ⟨b2, o, none⟩ := fun o => World.cell?_of_block (HSW.out.block b2 hok.1 hok.2)
            rw [← hcell] at c0 c1 c2 c3
            clear hcell hr
            have HSK : Hid (SlAt wr (fun i => i < N ∧ i ≠ b) a3 kk) := Lib.hid (SlAt.agree hk3 (rstay_agree HSW.out))
            have hta := rlAll_app (P := P) (Q := .cons kd tt nn kk Q) (by have := HA.out; rw [HF.out] at this; exact this)
            have HTN := Lib.hid hta.1
            clear hta hk3 hok
            simp only [Bk.costF] at hzQ
            simp only [Bk.nstF] at hmQ
            have HF2 : Hid (kids = (P.app (.cons kd tt nn kk .nil)).app Q) := Lib.hid (by rw [HF.out, Fo.app_assoc]; rfl)
            have HPL : Hid ((P.app (.cons kd tt nn kk .nil)).len = P.len + 1) := Lib.hid (by rw [Fo.app_len]; rfl)
            have hnk := Bk.node_ok W (k := kd) (n := nn) (t := tt) (kids := kk) (nest := nest) (fl := true) HOK.out (by omega) (by omega)
            have HOK2 := Lib.hid hnk.1
            have hz2 : (Bk.nodeF W kd tt nn kk (nest) true ⟨out1, col1, bg1⟩).out.size ≤ out1.size + 1001 * (tt.size + 1 + Bk.costF kk) := hnk.2
            have hzQ : out1.size + 1001 * (tt.size + 1 + Bk.costF kk + Bk.costF Q) ≤ 99000000 := hzQ
            clear hnk
            have HR2 : Hid (R = Bk.tellF W Q (nest) true (Bk.nodeF W kd tt nn kk (nest) true ⟨out1, col1, bg1⟩)) := Lib.hid (by rw [HRQ.out, Bk.tell_cons])
            obtain ⟨st2, hst2⟩ : ∃ st2, st2 = Bk.nodeF W kd tt nn kk (nest) true ⟨out1, col1, bg1⟩ := ⟨_, rfl⟩
            rw [← hst2] at hz2 HOK2 HR2
            have HS2 := Lib.hid hst2
            clear hst2
            go_wp2_with (go_at_call 26; refine (HTN.out N b W col1 (nest) bg1 true out1 a3 cp3 wr HTR.out HSK.out HOK.out (by omega) (by omega) (by omega) ⟨hW0, hW1⟩).mono ?_; rintro e w2 ⟨rfl, h1, h2⟩; rw [← HS2.out] at h1; have HT2 := Lib.hid h1; have HSW2 := Lib.hid (HSW.out.trans h2); have HC2 := Lib.hid (HC.out.stay h2); clear h1 h2)
            go_roundw
            case rel => exact ⟨P.app (.cons kd tt nn kk .nil), Q, st2, by rw [HPL.out]; omega, by rw [HPL.out]; go_num, by omega, by omega, HF2, HOK2, HR2, HT2, HSW2, HC2⟩
            case measure => simp [intOf]; omega
      · have hqt : q = false := by rw [hqd]; exact decide_eq_false (by omega)
        subst hqt
        have hd := decide_eq_false hle
        clear hwk HQ HW1 hqd
        go_enter Try.func26, Try.ntmps26
        go_wp2_with (go_at_call 13; refine (rwide_at 7 n t kids a cp L (some v) _ HL.out HK.out HSW0.out HGK.out HCK.out).mono ?_; rintro e w1 ⟨rfl, hg⟩; have HT1 := Lib.hid (HT.out.below hg); have HST1 := Lib.hid (HST.out.trans (RStay.of_below hg HT.out.lt.1 HT.out.lt.2)); have HX1 : Hid (Bx w.heap.size 7 t n (.slice a L cp) w1) := Lib.hid ((hg.block w.heap.size (by simp)).trans HBX.out); clear hg; obtain ⟨y0, y1, y2, y3⟩ := HX1.out.cells; obtain ⟨v1, ⟨c0, c1, c2, c3, f0, f1, f2⟩, HH1⟩ := HT1.out.rcells)
        go_loopw [12] (fun i wr => ∃ (P Q : Fo) (st : Bk.St), P.len ≤ L ∧ i = .int .i64 P.len ∧ nest + Bk.nstF Q ≤ 1000 ∧ st.out.size + 1001 * Bk.costF Q ≤ 99000000 ∧ Hid (kids = P.app Q) ∧ Hid (Bk.Okd st) ∧ Hid (R = Bk.tellF W Q (nest) false st) ∧ Hid (RtAt N b W st wr) ∧ Hid (RStay N b w wr) ∧ Hid (Bx w.heap.size 7 t n (.slice a L cp) wr)) (fun i _ => L - (intOf i).toNat)
        case atStart => exact ⟨.nil, kids, ⟨out, col, _⟩, by simp [Fo.len], rfl, by rw [← HX.out]; omega, by rw [← HM.out]; exact hz, Lib.hid rfl, HO, HR, HT1, HST1, HX1⟩
        case round =>
          obtain ⟨P, Q, ⟨out1, col1, bg1⟩, hPL, rfl, hmQ, hzQ, HF, HOK, HRQ, HTR, HSW, HC⟩ := hrel
          obtain ⟨y0, y1, y2, y3⟩ := HC.out.cells
          cases Q with
          | nil =>
            have hPl : P.len = L := by rw [← HL.out, HF.out, Fo.app_nil]
            obtain ⟨m, hm⟩ : ∃ m, m = P.len := ⟨_, rfl⟩
            rw [← hm] at hPL hPl ⊢
            have hml : ¬ m < L := by omega
            clear hPl hm
            go_wp2_with fail
            go_end0
            exact ⟨rfl, by rw [HRQ.out]; exact HTR.out, HSW.out⟩
          | cons kd tt nn kk Q =>
            have hlt : P.len < L := by
              have h1 := congrArg Fo.len HF.out
              rw [Fo.app_len, HL.out] at h1
              simp only [Fo.len] at h1
              omega
            rcases HS.out with h0 | ⟨b2, off, rfl, hb, hok, hr⟩
            · have := HL.out; omega
            rw [HF.out] at hr
            obtain ⟨c0, c1, c2, ⟨a3, cp3, c3, hk3⟩, hrest⟩ := row_app hr
            clear hrest
            have hcell : ∀ o, wr.cell? ⟨b2, o, none⟩ = w.cell? ⟨b2, o, none⟩ := fun o => World.cell?_of_block (HSW.out.block b2 hok.1 hok.2)
            rw [← hcell] at c0 c1 c2 c3
            clear hcell hr
            have HSK : Hid (SlAt wr (fun i => i < N ∧ i ≠ b) a3 kk) := Lib.hid (SlAt.agree hk3 (rstay_agree HSW.out))
            have hta := rlAll_app (P := P) (Q := .cons kd tt nn kk Q) (by have := HA.out; rw [HF.out] at this; exact this)
            have HTN := Lib.hid hta.1
            clear hta hk3 hok
            simp only [Bk.costF] at hzQ
            simp only [Bk.nstF] at hmQ
            have HF2 : Hid (kids = (P.app (.cons kd tt nn kk .nil)).app Q) := Lib.hid (by rw [HF.out, Fo.app_assoc]; rfl)
            have HPL : Hid ((P.app (.cons kd tt nn kk .nil)).len = P.len + 1) := Lib.hid (by rw [Fo.app_len]; rfl)
            have hnk := Bk.node_ok W (k := kd) (n := nn) (t := tt) (kids := kk) (nest := nest) (fl := false) HOK.out (by omega) (by omega)
            have HOK2 := Lib.hid hnk.1
            have hz2 : (Bk.nodeF W kd tt nn kk (nest) false ⟨out1, col1, bg1⟩).out.size ≤ out1.size + 1001 * (tt.size + 1 + Bk.costF kk) := hnk.2
            have hzQ : out1.size + 1001 * (tt.size + 1 + Bk.costF kk + Bk.costF Q) ≤ 99000000 := hzQ
            clear hnk
            have HR2 : Hid (R = Bk.tellF W Q (nest) false (Bk.nodeF W kd tt nn kk (nest) false ⟨out1, col1, bg1⟩)) := Lib.hid (by rw [HRQ.out, Bk.tell_cons])
            obtain ⟨st2, hst2⟩ : ∃ st2, st2 = Bk.nodeF W kd tt nn kk (nest) false ⟨out1, col1, bg1⟩ := ⟨_, rfl⟩
            rw [← hst2] at hz2 HOK2 HR2
            have HS2 := Lib.hid hst2
            clear hst2
            go_wp2_with (go_at_call 26; refine (HTN.out N b W col1 (nest) bg1 false out1 a3 cp3 wr HTR.out HSK.out HOK.out (by omega) (by omega) (by omega) ⟨hW0, hW1⟩).mono ?_; rintro e w2 ⟨rfl, h1, h2⟩; rw [← HS2.out] at h1; have HT2 := Lib.hid h1; have HSW2 := Lib.hid (HSW.out.trans h2); have HC2 := Lib.hid (HC.out.stay h2); clear h1 h2)
            go_roundw
            case rel => exact ⟨P.app (.cons kd tt nn kk .nil), Q, st2, by rw [HPL.out]; omega, by rw [HPL.out]; go_num, by omega, by omega, HF2, HOK2, HR2, HT2, HSW2, HC2⟩
            case measure => simp [intOf]; omega
    | false =>
      have hqd : q = decide ((v : Int) ≤ W - nest) := by rw [HQ.out]; unfold Bk.fitsB; rw [hwk]; rfl
      by_cases hle : (v : Int) + nest ≤ W
      · have hqt : q = true := by rw [hqd]; exact decide_eq_true (by omega)
        subst hqt
        have hd := decide_eq_true hle
        clear hwk HQ HW1 hqd
        go_enter Try.func26, Try.ntmps26
        go_wp2_with (go_at_call 13; refine (rwide_at 7 n t kids a cp L (some v) _ HL.out HK.out HSW0.out HGK.out HCK.out).mono ?_; rintro e w1 ⟨rfl, hg⟩; have HT1 := Lib.hid (HT.out.below hg); have HST1 := Lib.hid (HST.out.trans (RStay.of_below hg HT.out.lt.1 HT.out.lt.2)); have HX1 : Hid (Bx w.heap.size 7 t n (.slice a L cp) w1) := Lib.hid ((hg.block w.heap.size (by simp)).trans HBX.out); clear hg; obtain ⟨y0, y1, y2, y3⟩ := HX1.out.cells; obtain ⟨v1, ⟨c0, c1, c2, c3, f0, f1, f2⟩, HH1⟩ := HT1.out.rcells)
        go_loopw [12] (fun i wr => ∃ (P Q : Fo) (st : Bk.St), P.len ≤ L ∧ i = .int .i64 P.len ∧ nest + Bk.nstF Q ≤ 1000 ∧ st.out.size + 1001 * Bk.costF Q ≤ 99000000 ∧ Hid (kids = P.app Q) ∧ Hid (Bk.Okd st) ∧ Hid (R = Bk.tellF W Q (nest) true st) ∧ Hid (RtAt N b W st wr) ∧ Hid (RStay N b w wr) ∧ Hid (Bx w.heap.size 7 t n (.slice a L cp) wr)) (fun i _ => L - (intOf i).toNat)
        case atStart => exact ⟨.nil, kids, ⟨out, col, _⟩, by simp [Fo.len], rfl, by rw [← HX.out]; omega, by rw [← HM.out]; exact hz, Lib.hid rfl, HO, HR, HT1, HST1, HX1⟩
        case round =>
          obtain ⟨P, Q, ⟨out1, col1, bg1⟩, hPL, rfl, hmQ, hzQ, HF, HOK, HRQ, HTR, HSW, HC⟩ := hrel
          obtain ⟨y0, y1, y2, y3⟩ := HC.out.cells
          cases Q with
          | nil =>
            have hPl : P.len = L := by rw [← HL.out, HF.out, Fo.app_nil]
            obtain ⟨m, hm⟩ : ∃ m, m = P.len := ⟨_, rfl⟩
            rw [← hm] at hPL hPl ⊢
            have hml : ¬ m < L := by omega
            clear hPl hm
            go_wp2_with fail
            go_end0
            exact ⟨rfl, by rw [HRQ.out]; exact HTR.out, HSW.out⟩
          | cons kd tt nn kk Q =>
            have hlt : P.len < L := by
              have h1 := congrArg Fo.len HF.out
              rw [Fo.app_len, HL.out] at h1
              simp only [Fo.len] at h1
              omega
            rcases HS.out with h0 | ⟨b2, off, rfl, hb, hok, hr⟩
            · have := HL.out; omega
            rw [HF.out] at hr
            obtain ⟨c0, c1, c2, ⟨a3, cp3, c3, hk3⟩, hrest⟩ := row_app hr
            clear hrest
            have hcell : ∀ o, wr.cell? ⟨b2, o, none⟩ = w.cell? ⟨b2, o, none⟩ := fun o => World.cell?_of_block (HSW.out.block b2 hok.1 hok.2)
            rw [← hcell] at c0 c1 c2 c3
            clear hcell hr
            have HSK : Hid (SlAt wr (fun i => i < N ∧ i ≠ b) a3 kk) := Lib.hid (SlAt.agree hk3 (rstay_agree HSW.out))
            have hta := rlAll_app (P := P) (Q := .cons kd tt nn kk Q) (by have := HA.out; rw [HF.out] at this; exact this)
            have HTN := Lib.hid hta.1
            clear hta hk3 hok
            simp only [Bk.costF] at hzQ
            simp only [Bk.nstF] at hmQ
            have HF2 : Hid (kids = (P.app (.cons kd tt nn kk .nil)).app Q) := Lib.hid (by rw [HF.out, Fo.app_assoc]; rfl)
            have HPL : Hid ((P.app (.cons kd tt nn kk .nil)).len = P.len + 1) := Lib.hid (by rw [Fo.app_len]; rfl)
            have hnk := Bk.node_ok W (k := kd) (n := nn) (t := tt) (kids := kk) (nest := nest) (fl := true) HOK.out (by omega) (by omega)
            have HOK2 := Lib.hid hnk.1
            have hz2 : (Bk.nodeF W kd tt nn kk (nest) true ⟨out1, col1, bg1⟩).out.size ≤ out1.size + 1001 * (tt.size + 1 + Bk.costF kk) := hnk.2
            have hzQ : out1.size + 1001 * (tt.size + 1 + Bk.costF kk + Bk.costF Q) ≤ 99000000 := hzQ
            clear hnk
            have HR2 : Hid (R = Bk.tellF W Q (nest) true (Bk.nodeF W kd tt nn kk (nest) true ⟨out1, col1, bg1⟩)) := Lib.hid (by rw [HRQ.out, Bk.tell_cons])
            obtain ⟨st2, hst2⟩ : ∃ st2, st2 = Bk.nodeF W kd tt nn kk (nest) true ⟨out1, col1, bg1⟩ := ⟨_, rfl⟩
            rw [← hst2] at hz2 HOK2 HR2
            have HS2 := Lib.hid hst2
            clear hst2
            go_wp2_with (go_at_call 26; refine (HTN.out N b W col1 (nest) bg1 true out1 a3 cp3 wr HTR.out HSK.out HOK.out (by omega) (by omega) (by omega) ⟨hW0, hW1⟩).mono ?_; rintro e w2 ⟨rfl, h1, h2⟩; rw [← HS2.out] at h1; have HT2 := Lib.hid h1; have HSW2 := Lib.hid (HSW.out.trans h2); have HC2 := Lib.hid (HC.out.stay h2); clear h1 h2)
            go_roundw
            case rel => exact ⟨P.app (.cons kd tt nn kk .nil), Q, st2, by rw [HPL.out]; omega, by rw [HPL.out]; go_num, by omega, by omega, HF2, HOK2, HR2, HT2, HSW2, HC2⟩
            case measure => simp [intOf]; omega
      · have hqt : q = false := by rw [hqd]; exact decide_eq_false (by omega)
        subst hqt
        have hd := decide_eq_false hle
        clear hwk HQ HW1 hqd
        go_enter Try.func26, Try.ntmps26
        go_wp2_with (go_at_call 13; refine (rwide_at 7 n t kids a cp L (some v) _ HL.out HK.out HSW0.out HGK.out HCK.out).mono ?_; rintro e w1 ⟨rfl, hg⟩; have HT1 := Lib.hid (HT.out.below hg); have HST1 := Lib.hid (HST.out.trans (RStay.of_below hg HT.out.lt.1 HT.out.lt.2)); have HX1 : Hid (Bx w.heap.size 7 t n (.slice a L cp) w1) := Lib.hid ((hg.block w.heap.size (by simp)).trans HBX.out); clear hg; obtain ⟨y0, y1, y2, y3⟩ := HX1.out.cells; obtain ⟨v1, ⟨c0, c1, c2, c3, f0, f1, f2⟩, HH1⟩ := HT1.out.rcells)
        go_loopw [12] (fun i wr => ∃ (P Q : Fo) (st : Bk.St), P.len ≤ L ∧ i = .int .i64 P.len ∧ nest + Bk.nstF Q ≤ 1000 ∧ st.out.size + 1001 * Bk.costF Q ≤ 99000000 ∧ Hid (kids = P.app Q) ∧ Hid (Bk.Okd st) ∧ Hid (R = Bk.tellF W Q (nest) false st) ∧ Hid (RtAt N b W st wr) ∧ Hid (RStay N b w wr) ∧ Hid (Bx w.heap.size 7 t n (.slice a L cp) wr)) (fun i _ => L - (intOf i).toNat)
        case atStart => exact ⟨.nil, kids, ⟨out, col, _⟩, by simp [Fo.len], rfl, by rw [← HX.out]; omega, by rw [← HM.out]; exact hz, Lib.hid rfl, HO, HR, HT1, HST1, HX1⟩
        case round =>
          obtain ⟨P, Q, ⟨out1, col1, bg1⟩, hPL, rfl, hmQ, hzQ, HF, HOK, HRQ, HTR, HSW, HC⟩ := hrel
          obtain ⟨y0, y1, y2, y3⟩ := HC.out.cells
          cases Q with
          | nil =>
            have hPl : P.len = L := by rw [← HL.out, HF.out, Fo.app_nil]
            obtain ⟨m, hm⟩ : ∃ m, m = P.len := ⟨_, rfl⟩
            rw [← hm] at hPL hPl ⊢
            have hml : ¬ m < L := by omega
            clear hPl hm
            go_wp2_with fail
            go_end0
            exact ⟨rfl, by rw [HRQ.out]; exact HTR.out, HSW.out⟩
          | cons kd tt nn kk Q =>
            have hlt : P.len < L := by
              have h1 := congrArg Fo.len HF.out
              rw [Fo.app_len, HL.out] at h1
              simp only [Fo.len] at h1
              omega
            rcases HS.out with h0 | ⟨b2, off, rfl, hb, hok, hr⟩
            · have := HL.out; omega
            rw [HF.out] at hr
            obtain ⟨c0, c1, c2, ⟨a3, cp3, c3, hk3⟩, hrest⟩ := row_app hr
            clear hrest
            have hcell : ∀ o, wr.cell? ⟨b2, o, none⟩ = w.cell? ⟨b2, o, none⟩ := fun o => World.cell?_of_block (HSW.out.block b2 hok.1 hok.2)
            rw [← hcell] at c0 c1 c2 c3
            clear hcell hr
            have HSK : Hid (SlAt wr (fun i => i < N ∧ i ≠ b) a3 kk) := Lib.hid (SlAt.agree hk3 (rstay_agree HSW.out))
            have hta := rlAll_app (P := P) (Q := .cons kd tt nn kk Q) (by have := HA.out; rw [HF.out] at this; exact this)
            have HTN := Lib.hid hta.1
            clear hta hk3 hok
            simp only [Bk.costF] at hzQ
            simp only [Bk.nstF] at hmQ
            have HF2 : Hid (kids = (P.app (.cons kd tt nn kk .nil)).app Q) := Lib.hid (by rw [HF.out, Fo.app_assoc]; rfl)
            have HPL : Hid ((P.app (.cons kd tt nn kk .nil)).len = P.len + 1) := Lib.hid (by rw [Fo.app_len]; rfl)
            have hnk := Bk.node_ok W (k := kd) (n := nn) (t := tt) (kids := kk) (nest := nest) (fl := false) HOK.out (by omega) (by omega)
            have HOK2 := Lib.hid hnk.1
            have hz2 : (Bk.nodeF W kd tt nn kk (nest) false ⟨out1, col1, bg1⟩).out.size ≤ out1.size + 1001 * (tt.size + 1 + Bk.costF kk) := hnk.2
            have hzQ : out1.size + 1001 * (tt.size + 1 + Bk.costF kk + Bk.costF Q) ≤ 99000000 := hzQ
            clear hnk
            have HR2 : Hid (R = Bk.tellF W Q (nest) false (Bk.nodeF W kd tt nn kk (nest) false ⟨out1, col1, bg1⟩)) := Lib.hid (by rw [HRQ.out, Bk.tell_cons])
            obtain ⟨st2, hst2⟩ : ∃ st2, st2 = Bk.nodeF W kd tt nn kk (nest) false ⟨out1, col1, bg1⟩ := ⟨_, rfl⟩
            rw [← hst2] at hz2 HOK2 HR2
            have HS2 := Lib.hid hst2
            clear hst2
            go_wp2_with (go_at_call 26; refine (HTN.out N b W col1 (nest) bg1 false out1 a3 cp3 wr HTR.out HSK.out HOK.out (by omega) (by omega) (by omega) ⟨hW0, hW1⟩).mono ?_; rintro e w2 ⟨rfl, h1, h2⟩; rw [← HS2.out] at h1; have HT2 := Lib.hid h1; have HSW2 := Lib.hid (HSW.out.trans h2); have HC2 := Lib.hid (HC.out.stay h2); clear h1 h2)
            go_roundw
            case rel => exact ⟨P.app (.cons kd tt nn kk .nil), Q, st2, by rw [HPL.out]; omega, by rw [HPL.out]; go_num, by omega, by omega, HF2, HOK2, HR2, HT2, HSW2, HC2⟩
            case measure => simp [intOf]; omega
end Go.Proofs.Ythkpoiideiimaaa
