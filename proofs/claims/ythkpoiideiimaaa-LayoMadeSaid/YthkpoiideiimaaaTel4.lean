/- The teller of package layo: text, fits: contracts; how much is told. -/
import Derived.Test.YthkpoiideiimaaaTel3
namespace Go.Proofs.Ythkpoiideiimaaa
open Go Go.RowKit Go.PlainAid
set_option linter.unusedVariables false
open Bk (Fo)
namespace Bk
/-- How far layouts nest in all. -/
def nstF : Fo → Nat
  | .nil => 0
  | .cons k t n kids rest => (clampN n).toNat + nstF kids + nstF rest
/-- A state's column is in what was told. -/
structure Okd (st : St) : Prop where
  c0 : 0 ≤ st.col
  c1 : st.col ≤ st.out.size
theorem txt_ok {st : St} {s : ByteArray} {nest : Int} (h : Okd st) (hn : 0 ≤ nest) (hn1 : nest ≤ 1000) : Okd (txtS st s nest) ∧ (txtS st s nest).out.size ≤ st.out.size + 1000 + s.size := by
  have hw := widS_le s
  obtain ⟨h0, h1⟩ := h
  unfold txtS
  by_cases hs : s.size = 0
  · rw [if_pos hs]; exact ⟨⟨h0, h1⟩, by omega⟩
  · rw [if_neg hs]
    unfold atC
    cases hb : st.bg with
    | true =>
      refine ⟨⟨?_, ?_⟩, ?_⟩
      · show 0 ≤ st.col + (widS s : Nat); omega
      · show st.col + (widS s : Nat) ≤ ((st.out ++ s).size : Nat); rw [size_app]; omega
      · show (st.out ++ s).size ≤ _; rw [size_app]; omega
    | false =>
      refine ⟨⟨?_, ?_⟩, ?_⟩
      · show 0 ≤ nest + (widS s : Nat); omega
      · show nest + (widS s : Nat) ≤ ((st.out ++ manyS 32 nest.toNat ++ s).size : Nat); rw [size_app, size_app, manyS_size]; omega
      · show (st.out ++ manyS 32 nest.toNat ++ s).size ≤ _; rw [size_app, size_app, manyS_size]; omega
theorem feed_ok {st : St} : Okd (feedS st) ∧ (feedS st).out.size = st.out.size + 1 :=
  ⟨⟨Int.le_refl 0, by show (0 : Int) ≤ _; omega⟩, by show (st.out ++ ⟨#[10]⟩).size = _; rw [size_app]; rfl⟩
theorem tell_ok (W : Int) : ∀ (F : Fo) (nest : Int) (fl : Bool) (st : St), Okd st → 0 ≤ nest → nest + nstF F ≤ 1000 → Okd (tellF W F nest fl st) ∧ (tellF W F nest fl st).out.size ≤ st.out.size + 1001 * costF F := by
  intro F
  induction F with
  | nil => intro nest fl st h _ _; exact ⟨h, by show st.out.size ≤ _; omega⟩
  | cons k t n kids rest ihk ihr =>
    intro nest fl st h hn hm
    rw [tell_cons]
    simp only [nstF, costF] at hm ⊢
    have hN : Okd (nodeF W k t n kids nest fl st) ∧ (nodeF W k t n kids nest fl st).out.size ≤ st.out.size + 1001 * (t.size + 1 + costF kids) := by
      have hc : 0 ≤ clampN n := by unfold clampN; omega
      have hf := feed_ok (st := st)
      have ht := txt_ok (s := t) h hn (by omega)
      have hb := txt_ok (s := ⟨#[32]⟩) h hn (by omega)
      have h32 : (⟨#[32]⟩ : ByteArray).size = 1 := rfl
      have g5 := fun fl => ihk nest fl st h hn (by omega)
      have g6 := ihk (nest + clampN n) fl st h (by omega) (by omega)
      unfold nodeF
      split
      · exact ⟨ht.1, by omega⟩
      split
      · split
        · exact ⟨hb.1, by omega⟩
        · exact ⟨hf.1, by omega⟩
      split
      · split
        · exact ⟨h, by omega⟩
        · exact ⟨hf.1, by omega⟩
      split
      · exact ⟨hf.1, by omega⟩
      split
      · have := g5 fl; exact ⟨this.1, by omega⟩
      split
      · exact ⟨g6.1, by omega⟩
      split
      · have := g5 (fl || fitsB W kids nest st); exact ⟨this.1, by omega⟩
      · exact ⟨h, by omega⟩
    have hR := ihr nest fl _ hN.1 hn (by omega)
    exact ⟨hR.1, by omega⟩
end Bk
set_option maxRecDepth 100000 in
set_option maxHeartbeats 1000000 in
theorem text_none (N b : Nat) (W col nest : Int) (bg : Bool) (out s : ByteArray) (w : World) (h : TlAt N b W ⟨out, col, bg⟩ w) (h0 : s.size = 0) :
    Calls Try.prog 30 #[.pointer (some ⟨b, 0, none⟩), .string s, .int .i64 nest] w (TelPost N b W ⟨out, col, bg⟩ w) := by
  have hs1 : s.toList = [] := no_text h0
  have HH := Lib.hid h
  clear h
  go_enter Try.func30, Try.ntmps30
  go_wp2
  go_end0
  exact ⟨rfl, HH.out, Stay.refl _ _ _⟩
theorem text_tel (N b : Nat) (W col nest : Int) (bg : Bool) (out s : ByteArray) (w : World) (h : TlAt N b W ⟨out, col, bg⟩ w) (hk : Bk.Okd ⟨out, col, bg⟩) (hn : 0 ≤ nest) (hn1 : nest ≤ 1000) (hz : out.size + 1000 + s.size ≤ 100000000) :
    Calls Try.prog 30 #[.pointer (some ⟨b, 0, none⟩), .string s, .int .i64 nest] w (TelPost N b W (Bk.txtS ⟨out, col, bg⟩ s nest) w) := by
  obtain ⟨h0, h1⟩ := hk
  have h0 : 0 ≤ col := h0
  have h1 : col ≤ out.size := h1
  unfold Bk.txtS
  by_cases hs : s.size = 0
  · rw [if_pos hs]; exact text_none N b W col nest bg out s w h hs
  · rw [if_neg hs]
    cases bg with
    | true => exact text_begun N b W col nest out s w h (by omega) (by omega) ⟨h0, by omega⟩
    | false =>
      obtain ⟨m, rfl⟩ : ∃ m : Nat, nest = m := ⟨nest.toNat, by omega⟩
      exact text_fresh N b W col m out s w h (by omega) (by omega)
set_option maxRecDepth 100000 in
set_option maxHeartbeats 2000000 in
theorem fits_tel (N b : Nat) (W col nest nst : Int) (bg g : Bool) (out : ByteArray) (F : Fo) (a : Option Addr) (cp L : Nat) (w : World) (h : TlAt N b W ⟨out, col, bg⟩ w) (hk : Bk.Okd ⟨out, col, bg⟩) (hn : 0 ≤ nest) (hn1 : nest ≤ 1000) (hz : out.size ≤ 100000000)
    (hW : 0 ≤ W ∧ W ≤ 9223372036854775807) (hF : WideC F) (hL : F.len = L) (hp : PSl w (fun _ => True) F a) (hc : Bk.costF F ≤ 100000000) :
    Calls Try.prog 32 #[.pointer (some ⟨b, 0, none⟩), .iface 71 (.agg #[.int .i64 nst, .bool g, .slice a L cp]), .int .i64 nest] w fun e w' => e = .returned (.bool (Bk.fitsB W F nest ⟨out, col, bg⟩)) ∧ Below w.heap.size w w' := by
  obtain ⟨c2, c3, c4, f3, f4⟩ := h.cells
  obtain ⟨h0, h1⟩ := hk
  have h0 : 0 ≤ col := h0
  have h1 : col ≤ out.size := h1
  obtain ⟨hW0, hW1⟩ := hW
  have HF := Lib.hid hF
  have HP := Lib.hid hp
  have HL := Lib.hid hL
  have HT := Lib.hid h
  clear hF hp hL h
  obtain ⟨at', hat⟩ : ∃ x, x = Bk.atC ⟨out, col, bg⟩ nest := ⟨_, rfl⟩
  have hatb : 0 ≤ at' ∧ at' ≤ 100000000 := by
    rw [hat]; unfold Bk.atC; cases bg with
    | true => show 0 ≤ col ∧ col ≤ _; omega
    | false => show 0 ≤ nest ∧ nest ≤ _; omega
  obtain ⟨ha0, ha1⟩ := hatb
  cases hv : Bk.widF F with
  | none =>
    have HB : Hid (Bk.fitsB W F nest ⟨out, col, bg⟩ = false) := Lib.hid (by unfold Bk.fitsB; rw [hv])
    have HV := Lib.hid hv
    clear hv hat
    cases bg
    all_goals
      go_enter Try.func32, Try.ntmps32
      go_wp2_with (go_at_call 68; refine (wideC_at F HF.out a cp _ _ _ L none HL.out HV.out HP.out).mono ?_; rintro e w2 ⟨rfl, hg⟩; have HG := Lib.hid hg; have HT2 := Lib.hid (HT.out.below hg); clear hg; obtain ⟨d2, d3, d4, g3, g4⟩ := HT2.out.cells)
      go_ret
      exact ⟨ret_bool HB.out.symm, HG.out⟩
  | some v =>
    have hvc := Bk.wid_cost F v hv
    have HB : Hid (Bk.fitsB W F nest ⟨out, col, bg⟩ = decide ((v : Int) ≤ W - Bk.atC ⟨out, col, bg⟩ nest)) := Lib.hid (by unfold Bk.fitsB; rw [hv])
    have HV := Lib.hid hv
    clear hv
    cases bg
    · have HAT : Hid (Bk.atC ⟨out, col, false⟩ nest = nest) := Lib.hid rfl
      clear hat
      go_enter Try.func32, Try.ntmps32
      go_wp2_with (go_at_call 68; refine (wideC_at F HF.out a cp _ _ _ L (some v) HL.out HV.out HP.out).mono ?_; rintro e w2 ⟨rfl, hg⟩; have HG := Lib.hid hg; have HT2 := Lib.hid (HT.out.below hg); clear hg; obtain ⟨d2, d3, d4, g3, g4⟩ := HT2.out.cells)
      all_goals
        go_ret
        exact ⟨ret_bool (by rw [HB.out, HAT.out]), HG.out⟩
    · have HAT : Hid (Bk.atC ⟨out, col, true⟩ nest = col) := Lib.hid rfl
      clear hat
      go_enter Try.func32, Try.ntmps32
      go_wp2_with (go_at_call 68; refine (wideC_at F HF.out a cp _ _ _ L (some v) HL.out HV.out HP.out).mono ?_; rintro e w2 ⟨rfl, hg⟩; have HG := Lib.hid hg; have HT2 := Lib.hid (HT.out.below hg); clear hg; obtain ⟨d2, d3, d4, g3, g4⟩ := HT2.out.cells)
      all_goals
        go_ret
        exact ⟨ret_bool (by rw [HB.out, HAT.out]), HG.out⟩
end Go.Proofs.Ythkpoiideiimaaa
