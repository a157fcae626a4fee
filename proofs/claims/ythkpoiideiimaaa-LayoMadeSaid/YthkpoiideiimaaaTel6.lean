/- The teller of package layo: tell of a list: contract; Show. -/
import Derived.Test.YthkpoiideiimaaaTel5
namespace Go.Proofs.Ythkpoiideiimaaa
open Go Go.RowKit Go.PlainAid
set_option linter.unusedVariables false
open Bk (Fo)
theorem Bk.node_ok (W : Int) {k n : Int} {t : ByteArray} {kids : Fo} {nest : Int} {fl : Bool} {st : Bk.St} (h : Bk.Okd st) (hn : 0 ≤ nest) (hm : nest + (Bk.clampN n).toNat + Bk.nstF kids ≤ 1000) :
    Bk.Okd (Bk.nodeF W k t n kids nest fl st) ∧ (Bk.nodeF W k t n kids nest fl st).out.size ≤ st.out.size + 1001 * (t.size + 1 + Bk.costF kids) := by
  have := Bk.tell_ok W (.cons k t n kids .nil) nest fl st h hn (by simp only [Bk.nstF]; omega)
  rw [Bk.tell_cons] at this
  simpa [Bk.costF, Bk.tellF] using this
theorem stay_agree {N b : Nat} {w w' : World} (h : Stay N b w w') : Agree (fun i => i < N ∧ i ≠ b) w w' := ⟨h.below.size, fun i _ hk => h.block i hk.1 hk.2⟩
theorem pcv_agree {ok : Nat → Prop} {w w' : World} (h : Agree ok w w') {k n : Int} {t : ByteArray} {kids : Fo} {len : Nat} {v : Value} (hv : PcV (PSl w ok kids) k t n len v) : PcV (PSl w' ok kids) k t n len v := hv.mono fun a ha => ha.agree h
theorem box_cells {w w' : World} {N b i : Nat} {c : Array Value} (hs : Stay N b w w') (hb : w.heap[i]? = some (.cells c 71 (0, 0))) : w'.heap[i]? = some (.cells c 71 (0, 0)) := (hs.typed i c 71 (0, 0) hb (by decide) (by decide)).trans hb
/-- How a list is told, whether flat or not. -/
def flatB (W : Int) (kids : Fo) (g fl : Bool) (nest : Int) (st : Bk.St) : Bool := fl || (g && Bk.fitsB W kids nest st)
set_option maxRecDepth 100000 in
set_option maxHeartbeats 8000000 in
theorem tell_list (kids : Fo) (hG : Bk.GoodF kids) (hA : TellAll kids) (hWC : WideC kids) (N b : Nat) (W col nest nv : Int) (bg fl g : Bool) (out : ByteArray) (a : Option Addr) (cp : Nat) (w : World) (hT : TlAt N b W ⟨out, col, bg⟩ w)
    (hp : PSl w (fun i => i < N ∧ i ≠ b) kids a) (hO : Bk.Okd ⟨out, col, bg⟩) (hn : 0 ≤ nest) (hnv : 0 ≤ nv) (hm : nest + nv + Bk.nstF kids ≤ 1000) (hz : out.size + 1001 * Bk.costF kids ≤ 99000000) (hW : 0 ≤ W ∧ W ≤ 9223372036854775807) :
    Calls Try.prog 24 #[.pointer (some ⟨b, 0, none⟩), .iface 71 (.agg #[.int .i64 nv, .bool g, .slice a kids.len cp]), .int .i64 nest, .bool fl] w (TelPost N b W (Bk.tellF W kids (nest + nv) (flatB W kids g fl nest ⟨out, col, bg⟩) ⟨out, col, bg⟩) w) := by
  have a63 := Try.as71_63
  have a65 := Try.as71_65
  have a71 := Try.as71_71
  obtain ⟨L, hL⟩ : ∃ L, kids.len = L := ⟨_, rfl⟩
  have hlen : L ≤ 100000000 := by have := Bk.len_cost kids; omega
  rw [hL]
  obtain ⟨M, hM⟩ : ∃ M, M = Bk.costF kids := ⟨_, rfl⟩
  obtain ⟨X, hX⟩ : ∃ X, X = Bk.nstF kids := ⟨_, rfl⟩
  rw [← hM] at hz
  rw [← hX] at hm
  obtain ⟨hW0, hW1⟩ := hW
  have HL := Lib.hid hL
  have HM := Lib.hid hM
  have HX := Lib.hid hX
  have HT := Lib.hid hT
  have HO := Lib.hid hO
  have HP := Lib.hid hp
  have HG := Lib.hid hG
  have HA := Lib.hid hA
  have HWC := Lib.hid hWC
  have HLT := Lib.hid hT.lt
  have HB := Lib.hid ((Below.refl w.heap.size w).alloc (Nat.le_refl _) (.cells #[.string ByteArray.empty] 65) |>.alloc (by simp) (.cells #[.int .i64 nv, .bool g, .slice a L cp] 71))
  clear hL hM hX hT hO hp hG hA hWC
  have hq : ∃ q, q = flatB W kids g fl nest ⟨out, col, bg⟩ := ⟨_, rfl⟩
  obtain ⟨q, hq⟩ := hq
  rw [← hq]
  obtain ⟨R, hR⟩ : ∃ R, R = Bk.tellF W kids (nest + nv) q ⟨out, col, bg⟩ := ⟨_, rfl⟩
  rw [← hR]
  have HR := Lib.hid hR
  clear hR
  have hway : (fl = true ∧ q = true) ∨ (fl = false ∧ g = false ∧ q = false) ∨ (fl = false ∧ g = true ∧ Hid (q = Bk.fitsB W kids nest ⟨out, col, bg⟩)) := by
    rw [hq]; unfold flatB
    cases fl
    · cases g
      · exact .inr (.inl ⟨rfl, rfl, rfl⟩)
      · exact .inr (.inr ⟨rfl, rfl, Lib.hid rfl⟩)
    · exact .inl ⟨rfl, rfl⟩
  clear hq
  rcases hway with ⟨rfl, rfl⟩ | ⟨rfl, rfl, rfl⟩ | ⟨rfl, rfl, HQ⟩
  · have HFF : Hid (Below w.heap.size w _) := HB
    go_enter Try.func24, Try.ntmps24
    go_wp2_with fail
    have HC0 : Hid (((w.alloc (.cells #[.string ByteArray.empty] 65)).alloc (.cells #[.int .i64 nv, .bool g, .slice a L cp] 71)).heap[w.heap.size + 1]? = some (Obj.cells #[.int .i64 nv, .bool g, .slice a L cp] 71 (0, 0))) := Lib.hid (by have := heap_alloc_new (w.alloc (.cells #[.string ByteArray.empty] 65)) (.cells #[.int .i64 nv, .bool g, .slice a L cp] 71); simpa using this)
    have HST0 := Lib.hid (Stay.of_below HFF.out HLT.out.1 HLT.out.2)
    go_loopw [64] (fun i wr => ∃ (P Q : Fo) (st : Bk.St), P.len ≤ L ∧ i = .int .i64 P.len ∧ nest + nv + Bk.nstF Q ≤ 1000 ∧ st.out.size + 1001 * Bk.costF Q ≤ 99000000 ∧ Hid (kids = P.app Q) ∧ Hid (Bk.Okd st) ∧ Hid (R = Bk.tellF W Q (nest + nv) true st) ∧ Hid (TlAt N b W st wr) ∧ Hid (Stay N b w wr) ∧ Hid (wr.heap[w.heap.size + 1]? = some (.cells #[.int .i64 nv, .bool g, .slice a L cp] 71 (0, 0)))) (fun i _ => L - (intOf i).toNat)
    case atStart => exact ⟨.nil, kids, ⟨out, col, bg⟩, by simp [Fo.len], rfl, by rw [← HX.out]; omega, by rw [← HM.out]; exact hz, Lib.hid rfl, HO, HR, Lib.hid (HT.out.below HFF.out), HST0, HC0⟩
    case round =>
      obtain ⟨P, Q, ⟨out1, col1, bg1⟩, hPL, rfl, hmQ, hzQ, HF, HOK, HRQ, HTR, HSW, HC⟩ := hrel
      cases Q with
      | nil =>
        have hPl : P.len = L := by rw [← HL.out, HF.out, Fo.app_nil]
        obtain ⟨m, hm⟩ : ∃ m, m = P.len := ⟨_, rfl⟩
        rw [← hm] at hPL hPl ⊢
        have hml : ¬ m < L := by omega
        clear hPl hm
        go_wp2_with fail
        go_end0
        exact ⟨rfl, by rw [HRQ.out]; exact HTR.out, HSW.out⟩
      | cons k t n kd Q =>
        have hlt : P.len < L := by
          have h1 := congrArg Fo.len HF.out
          rw [Fo.app_len, HL.out] at h1
          simp only [Fo.len] at h1
          omega
        rcases HP.out with h0 | ⟨b2, off, rfl, hb, hok, hr⟩
        · have := HL.out; omega
        rw [HF.out] at hr
        obtain ⟨⟨v, hv1, hv2⟩, hrest⟩ := prow_app hr
        clear hrest
        have hcell : wr.cell? ⟨b2, off + P.len, none⟩ = some v := (World.cell?_of_block (HSW.out.block b2 hok.1 hok.2)).trans hv1
        have hbx : wr.cell? ⟨w.heap.size + 1, 0, none⟩ = some (.int .i64 nv) := by rw [Lib.cell_of_heap HC.out]; rfl
        have HPV : Hid (PcV (PSl wr (fun i => i < N ∧ i ≠ b) kd) k t n kd.len v) := Lib.hid (pcv_agree (stay_agree HSW.out) hv2)
        have hta := tellAll_app (P := P) (Q := .cons k t n kd Q) (by have := HA.out; rw [HF.out] at this; exact this)
        have HTN := Lib.hid hta.1
        clear hta
        clear hr hv1 hv2 hok
        simp only [Bk.costF] at hzQ
        simp only [Bk.nstF] at hmQ
        have HF2 : Hid (kids = (P.app (.cons k t n kd .nil)).app Q) := Lib.hid (by rw [HF.out, Fo.app_assoc]; rfl)
        have HPL : Hid ((P.app (.cons k t n kd .nil)).len = P.len + 1) := Lib.hid (by rw [Fo.app_len]; rfl)
        have hnk := Bk.node_ok W (k := k) (n := n) (t := t) (kids := kd) (nest := nest + nv) (fl := true) HOK.out (by omega) (by omega)
        have HOK2 := Lib.hid hnk.1
        have hz2 := hnk.2
        have hz2 : (Bk.nodeF W k t n kd (nest + nv) true ⟨out1, col1, bg1⟩).out.size ≤ out1.size + 1001 * (t.size + 1 + Bk.costF kd) := hz2
        have hzQ : out1.size + 1001 * (t.size + 1 + Bk.costF kd + Bk.costF Q) ≤ 99000000 := hzQ
        clear hnk
        have HR2 : Hid (R = Bk.tellF W Q (nest + nv) true (Bk.nodeF W k t n kd (nest + nv) true ⟨out1, col1, bg1⟩)) := Lib.hid (by rw [HRQ.out, Bk.tell_cons])
        obtain ⟨st2, hst2⟩ : ∃ st2, st2 = Bk.nodeF W k t n kd (nest + nv) true ⟨out1, col1, bg1⟩ := ⟨_, rfl⟩
        rw [← hst2] at hz2 HOK2 HR2
        have HS2 := Lib.hid hst2
        clear hst2
        go_wp2_with (go_at_call 24; refine (HTN.out N b W col1 (nest + nv) bg1 true out1 _ wr HTR.out HPV.out HOK.out (by omega) (by omega) (by omega) ⟨hW0, hW1⟩).mono ?_; rintro e w2 ⟨rfl, h1, h2⟩; rw [← HS2.out] at h1; have HT2 := Lib.hid h1; have HSW2 := Lib.hid (HSW.out.trans h2); have HC2 := Lib.hid (box_cells h2 HC.out); clear h1 h2)
        go_roundw
        case rel => exact ⟨P.app (.cons k t n kd .nil), Q, st2, by rw [HPL.out]; omega, by rw [HPL.out]; go_num, by omega, by omega, HF2, HOK2, HR2, HT2, HSW2, HC2⟩
        case measure => simp [intOf]; omega
  · have HFF : Hid (Below w.heap.size w _) := HB
    go_enter Try.func24, Try.ntmps24
    go_wp2_with fail
    have HC0 : Hid (((w.alloc (.cells #[.string ByteArray.empty] 65)).alloc (.cells #[.int .i64 nv, .bool false, .slice a L cp] 71)).heap[w.heap.size + 1]? = some (Obj.cells #[.int .i64 nv, .bool false, .slice a L cp] 71 (0, 0))) := Lib.hid (by have := heap_alloc_new (w.alloc (.cells #[.string ByteArray.empty] 65)) (.cells #[.int .i64 nv, .bool false, .slice a L cp] 71); simpa using this)
    have HST0 := Lib.hid (Stay.of_below HFF.out HLT.out.1 HLT.out.2)
    go_loopw [64] (fun i wr => ∃ (P Q : Fo) (st : Bk.St), P.len ≤ L ∧ i = .int .i64 P.len ∧ nest + nv + Bk.nstF Q ≤ 1000 ∧ st.out.size + 1001 * Bk.costF Q ≤ 99000000 ∧ Hid (kids = P.app Q) ∧ Hid (Bk.Okd st) ∧ Hid (R = Bk.tellF W Q (nest + nv) false st) ∧ Hid (TlAt N b W st wr) ∧ Hid (Stay N b w wr) ∧ Hid (wr.heap[w.heap.size + 1]? = some (.cells #[.int .i64 nv, .bool false, .slice a L cp] 71 (0, 0)))) (fun i _ => L - (intOf i).toNat)
    case atStart => exact ⟨.nil, kids, ⟨out, col, bg⟩, by simp [Fo.len], rfl, by rw [← HX.out]; omega, by rw [← HM.out]; exact hz, Lib.hid rfl, HO, HR, Lib.hid (HT.out.below HFF.out), HST0, HC0⟩
    case round =>
      obtain ⟨P, Q, ⟨out1, col1, bg1⟩, hPL, rfl, hmQ, hzQ, HF, HOK, HRQ, HTR, HSW, HC⟩ := hrel
      cases Q with
      | nil =>
        have hPl : P.len = L := by rw [← HL.out, HF.out, Fo.app_nil]
        obtain ⟨m, hm⟩ : ∃ m, m = P.len := ⟨_, rfl⟩
        rw [← hm] at hPL hPl ⊢
        have hml : ¬ m < L := by omega
        clear hPl hm
        go_wp2_with fail
        go_end0
        exact ⟨rfl, by rw [HRQ.out]; exact HTR.out, HSW.out⟩
      | cons k t n kd Q =>
        have hlt : P.len < L := by
          have h1 := congrArg Fo.len HF.out
          rw [Fo.app_len, HL.out] at h1
          simp only [Fo.len] at h1
          omega
        rcases HP.out with h0 | ⟨b2, off, rfl, hb, hok, hr⟩
        · have := HL.out; omega
        rw [HF.out] at hr
        obtain ⟨⟨v, hv1, hv2⟩, hrest⟩ := prow_app hr
        clear hrest
        have hcell : wr.cell? ⟨b2, off + P.len, none⟩ = some v := (World.cell?_of_block (HSW.out.block b2 hok.1 hok.2)).trans hv1
        have hbx : wr.cell? ⟨w.heap.size + 1, 0, none⟩ = some (.int .i64 nv) := by rw [Lib.cell_of_heap HC.out]; rfl
        have HPV : Hid (PcV (PSl wr (fun i => i < N ∧ i ≠ b) kd) k t n kd.len v) := Lib.hid (pcv_agree (stay_agree HSW.out) hv2)
        have hta := tellAll_app (P := P) (Q := .cons k t n kd Q) (by have := HA.out; rw [HF.out] at this; exact this)
        have HTN := Lib.hid hta.1
        clear hta
        clear hr hv1 hv2 hok
        simp only [Bk.costF] at hzQ
        simp only [Bk.nstF] at hmQ
        have HF2 : Hid (kids = (P.app (.cons k t n kd .nil)).app Q) := Lib.hid (by rw [HF.out, Fo.app_assoc]; rfl)
        have HPL : Hid ((P.app (.cons k t n kd .nil)).len = P.len + 1) := Lib.hid (by rw [Fo.app_len]; rfl)
        have hnk := Bk.node_ok W (k := k) (n := n) (t := t) (kids := kd) (nest := nest + nv) (fl := false) HOK.out (by omega) (by omega)
        have HOK2 := Lib.hid hnk.1
        have hz2 := hnk.2
        have hz2 : (Bk.nodeF W k t n kd (nest + nv) false ⟨out1, col1, bg1⟩).out.size ≤ out1.size + 1001 * (t.size + 1 + Bk.costF kd) := hz2
        have hzQ : out1.size + 1001 * (t.size + 1 + Bk.costF kd + Bk.costF Q) ≤ 99000000 := hzQ
        clear hnk
        have HR2 : Hid (R = Bk.tellF W Q (nest + nv) false (Bk.nodeF W k t n kd (nest + nv) false ⟨out1, col1, bg1⟩)) := Lib.hid (by rw [HRQ.out, Bk.tell_cons])
        obtain ⟨st2, hst2⟩ : ∃ st2, st2 = Bk.nodeF W k t n kd (nest + nv) false ⟨out1, col1, bg1⟩ := ⟨_, rfl⟩
        rw [← hst2] at hz2 HOK2 HR2
        have HS2 := Lib.hid hst2
        clear hst2
        go_wp2_with (go_at_call 24; refine (HTN.out N b W col1 (nest + nv) bg1 false out1 _ wr HTR.out HPV.out HOK.out (by omega) (by omega) (by omega) ⟨hW0, hW1⟩).mono ?_; rintro e w2 ⟨rfl, h1, h2⟩; rw [← HS2.out] at h1; have HT2 := Lib.hid h1; have HSW2 := Lib.hid (HSW.out.trans h2); have HC2 := Lib.hid (box_cells h2 HC.out); clear h1 h2)
        go_roundw
        case rel => exact ⟨P.app (.cons k t n kd .nil), Q, st2, by rw [HPL.out]; omega, by rw [HPL.out]; go_num, by omega, by omega, HF2, HOK2, HR2, HT2, HSW2, HC2⟩
        case measure => simp [intOf]; omega
  · go_enter Try.func24, Try.ntmps24
    go_wp2_with (go_at_call 32; refine (fits_tel N b W col nest nv bg true out kids a cp L _ (HT.out.below HB.out) HO.out hn (by omega) (by omega) ⟨hW0, hW1⟩ HWC.out HL.out ((HP.out.below HB.out).weak (fun _ _ _ => trivial)) (by rw [← HM.out]; omega)).mono ?_; rintro e w1 ⟨rfl, hg⟩; rw [← HQ.out]; have HFF := Lib.hid (HB.out.trans (hg.mono (by simp; omega))); have HC0 : Hid (w1.heap[w.heap.size + 1]? = some (Obj.cells #[.int .i64 nv, .bool true, .slice a L cp] 71 (0, 0))) := Lib.hid (by rw [hg.block (w.heap.size + 1) (by simp)]; have := heap_alloc_new (w.alloc (.cells #[.string ByteArray.empty] 65)) (.cells #[.int .i64 nv, .bool true, .slice a L cp] 71); simpa using this); have hbx2 : w1.cell? ⟨w.heap.size + 1, 2, none⟩ = some (.slice a L cp) := (by rw [Lib.cell_of_heap HC0.out]; rfl); clear hg)
    have HST0 := Lib.hid (Stay.of_below HFF.out HLT.out.1 HLT.out.2)
    go_loopw [64] (fun i wr => ∃ (P Q : Fo) (st : Bk.St), P.len ≤ L ∧ i = .int .i64 P.len ∧ nest + nv + Bk.nstF Q ≤ 1000 ∧ st.out.size + 1001 * Bk.costF Q ≤ 99000000 ∧ Hid (kids = P.app Q) ∧ Hid (Bk.Okd st) ∧ Hid (R = Bk.tellF W Q (nest + nv) q st) ∧ Hid (TlAt N b W st wr) ∧ Hid (Stay N b w wr) ∧ Hid (wr.heap[w.heap.size + 1]? = some (.cells #[.int .i64 nv, .bool true, .slice a L cp] 71 (0, 0)))) (fun i _ => L - (intOf i).toNat)
    case atStart => exact ⟨.nil, kids, ⟨out, col, bg⟩, by simp [Fo.len], rfl, by rw [← HX.out]; omega, by rw [← HM.out]; exact hz, Lib.hid rfl, HO, HR, Lib.hid (HT.out.below HFF.out), HST0, HC0⟩
    case round =>
      obtain ⟨P, Q, ⟨out1, col1, bg1⟩, hPL, rfl, hmQ, hzQ, HF, HOK, HRQ, HTR, HSW, HC⟩ := hrel
      cases Q with
      | nil =>
        have hPl : P.len = L := by rw [← HL.out, HF.out, Fo.app_nil]
        obtain ⟨m, hm⟩ : ∃ m, m = P.len := ⟨_, rfl⟩
        rw [← hm] at hPL hPl ⊢
        have hml : ¬ m < L := by omega
        clear hPl hm
        go_wp2_with fail
        go_end0
        exact ⟨rfl, by rw [HRQ.out]; exact HTR.out, HSW.out⟩
      | cons k t n kd Q =>
        have hlt : P.len < L := by
          have h1 := congrArg Fo.len HF.out
          rw [Fo.app_len, HL.out] at h1
          simp only [Fo.len] at h1
          omega
        rcases HP.out with h0 | ⟨b2, off, rfl, hb, hok, hr⟩
        · have := HL.out; omega
        rw [HF.out] at hr
        obtain ⟨⟨v, hv1, hv2⟩, hrest⟩ := prow_app hr
        clear hrest
        have hcell : wr.cell? ⟨b2, off + P.len, none⟩ = some v := (World.cell?_of_block (HSW.out.block b2 hok.1 hok.2)).trans hv1
        have hbx : wr.cell? ⟨w.heap.size + 1, 0, none⟩ = some (.int .i64 nv) := by rw [Lib.cell_of_heap HC.out]; rfl
        have HPV : Hid (PcV (PSl wr (fun i => i < N ∧ i ≠ b) kd) k t n kd.len v) := Lib.hid (pcv_agree (stay_agree HSW.out) hv2)
        have hta := tellAll_app (P := P) (Q := .cons k t n kd Q) (by have := HA.out; rw [HF.out] at this; exact this)
        have HTN := Lib.hid hta.1
        clear hta
        clear hr hv1 hv2 hok
        simp only [Bk.costF] at hzQ
        simp only [Bk.nstF] at hmQ
        have HF2 : Hid (kids = (P.app (.cons k t n kd .nil)).app Q) := Lib.hid (by rw [HF.out, Fo.app_assoc]; rfl)
        have HPL : Hid ((P.app (.cons k t n kd .nil)).len = P.len + 1) := Lib.hid (by rw [Fo.app_len]; rfl)
        have hnk := Bk.node_ok W (k := k) (n := n) (t := t) (kids := kd) (nest := nest + nv) (fl := q) HOK.out (by omega) (by omega)
        have HOK2 := Lib.hid hnk.1
        have hz2 := hnk.2
        have hz2 : (Bk.nodeF W k t n kd (nest + nv) q ⟨out1, col1, bg1⟩).out.size ≤ out1.size + 1001 * (t.size + 1 + Bk.costF kd) := hz2
        have hzQ : out1.size + 1001 * (t.size + 1 + Bk.costF kd + Bk.costF Q) ≤ 99000000 := hzQ
        clear hnk
        have HR2 : Hid (R = Bk.tellF W Q (nest + nv) q (Bk.nodeF W k t n kd (nest + nv) q ⟨out1, col1, bg1⟩)) := Lib.hid (by rw [HRQ.out, Bk.tell_cons])
        obtain ⟨st2, hst2⟩ : ∃ st2, st2 = Bk.nodeF W k t n kd (nest + nv) q ⟨out1, col1, bg1⟩ := ⟨_, rfl⟩
        rw [← hst2] at hz2 HOK2 HR2
        have HS2 := Lib.hid hst2
        clear hst2
        go_wp2_with (go_at_call 24; refine (HTN.out N b W col1 (nest + nv) bg1 q out1 _ wr HTR.out HPV.out HOK.out (by omega) (by omega) (by omega) ⟨hW0, hW1⟩).mono ?_; rintro e w2 ⟨rfl, h1, h2⟩; rw [← HS2.out] at h1; have HT2 := Lib.hid h1; have HSW2 := Lib.hid (HSW.out.trans h2); have HC2 := Lib.hid (box_cells h2 HC.out); clear h1 h2)
        go_roundw
        case rel => exact ⟨P.app (.cons k t n kd .nil), Q, st2, by rw [HPL.out]; omega, by rw [HPL.out]; go_num, by omega, by omega, HF2, HOK2, HR2, HT2, HSW2, HC2⟩
        case measure => simp [intOf]; omega
end Go.Proofs.Ythkpoiideiimaaa
