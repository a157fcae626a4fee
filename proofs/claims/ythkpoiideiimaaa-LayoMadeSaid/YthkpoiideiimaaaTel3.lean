/- The teller of package layo: text, feed: contracts. -/
import Derived.Test.YthkpoiideiimaaaTel2
import Derived.Deep.RegionWith
namespace Go.Proofs.Ythkpoiideiimaaa
open Go Go.RowKit Go.PlainAid
set_option linter.unusedVariables false
open Bk (Fo)
namespace Bk
theorem repeat_add (l : List UInt8) : ∀ c, Lib.repeatL l (c + 1) = Lib.repeatL l c ++ l
  | 0 => by simp [Lib.repeatL]
  | c + 1 => by
    show l ++ Lib.repeatL l (c + 1) = (l ++ Lib.repeatL l c) ++ l
    rw [repeat_add l c, List.append_assoc]
theorem repeat_many (x : UInt8) : ∀ c, (⟨(Lib.repeatL [x] c).toArray⟩ : ByteArray) = manyS x c
  | 0 => rfl
  | c + 1 => by
    have h : (⟨(Lib.repeatL [x] (c + 1)).toArray⟩ : ByteArray) = ⟨(Lib.repeatL [x] c).toArray⟩ ++ ⟨#[x]⟩ := by
      apply ByteArray.ext
      rw [ByteArray.data_append, repeat_add]
      simp
    rw [h, repeat_many x c, manyS]
end Bk
theorem no_text {s : ByteArray} (h : s.size = 0) : s.toList = [] := by
  rw [Lib.toList_data]
  have : s.data.toList.length = 0 := by rw [← Lib.size_eq]; exact h
  exact List.eq_nil_of_length_eq_zero this
theorem some_text {s : ByteArray} (h : 0 < s.size) : s.toList.isEmpty = false := by
  rw [Lib.toList_data]
  cases hq : s.data.toList with
  | nil => exfalso; have : s.data.toList.length = 0 := by rw [hq]; rfl
           rw [← Lib.size_eq] at this; omega
  | cons x l => rfl
theorem rep_any (n : Nat) (w : World) (hn : n ≤ 140737488355328) :
    Calls Try.prog 36 #[.string ⟨#[32]⟩, .int .i64 n] w fun e w' => e = .returned (.string (Bk.manyS 32 n)) ∧ Below w.heap.size w w' := by
  refine (Try.strings_Repeat ⟨#[32]⟩ n w (by omega) (by show 1 * n ≤ _; omega)).mono ?_
  rintro e w' ⟨rfl, h2⟩
  exact ⟨ret_str (Bk.repeat_many 32 n), h2⟩
/-- What a walk is told of the teller's block. -/
theorem TlP.cells {p v : Value} {N b : Nat} {W col : Int} {bg : Bool} {t : ByteArray} {w : World} (h : TlP p v N b W col bg t w) :
    w.cell? ⟨b, 2, none⟩ = some (.int .i64 W) ∧ w.cell? ⟨b, 3, none⟩ = some (.int .i64 col) ∧ w.cell? ⟨b, 4, none⟩ = some (.bool bg) ∧ (∀ o, w.frozen? ⟨b, o, none⟩ = false) := by
  obtain ⟨hb, hN, hbk, hown⟩ := h
  exact ⟨by rw [Lib.cell_of_heap hbk]; rfl, by rw [Lib.cell_of_heap hbk]; rfl, by rw [Lib.cell_of_heap hbk]; rfl, Lib.frozen_of_heap hbk⟩
theorem TlP.col {p v : Value} {N b : Nat} {W col : Int} {bg : Bool} {t : ByteArray} {w : World} (h : TlP p v N b W col bg t w) (c : Int) : TlP p v N b W c bg t (w.setCell ⟨b, 3, none⟩ (.int .i64 c)) := h.put 3 _ rfl h.2.2.2
theorem TlP.bgs {p v : Value} {N b : Nat} {W col : Int} {bg : Bool} {t : ByteArray} {w : World} (h : TlP p v N b W col bg t w) (c : Bool) : TlP p v N b W col c t (w.setCell ⟨b, 4, none⟩ (.bool c)) := h.put 4 _ rfl h.2.2.2
theorem ws_at (N b : Nat) (W col : Int) (bg : Bool) (t s : ByteArray) (w : World) (h : TlAt N b W ⟨t, col, bg⟩ w) (hz : t.size + s.size ≤ 1000000000) :
    Calls Try.prog 35 #[.pointer (some ⟨b, 0, none⟩), .string s] w fun e w' => e = .returned (.tuple #[.int .i64 s.size, .nilIface]) ∧ TlAt N b W ⟨t ++ s, col, bg⟩ w' ∧ Stay N b w w' := by
  obtain ⟨p, v, hp, h⟩ := h
  refine (ws_tel p v N b W col bg t s w hp h hz).mono ?_
  rintro e w' ⟨rfl, ⟨v', h1⟩, h2⟩
  exact ⟨rfl, ⟨_, v', .inr rfl, h1⟩, h2⟩
theorem wb_at (N b : Nat) (W col : Int) (bg : Bool) (t : ByteArray) (c : UInt8) (w : World) (h : TlAt N b W ⟨t, col, bg⟩ w) (hz : t.size ≤ 1000000000) :
    Calls Try.prog 37 #[.pointer (some ⟨b, 0, none⟩), .int .u8 c.toNat] w fun e w' => e = .returned .nilIface ∧ TlAt N b W ⟨t ++ ⟨#[c]⟩, col, bg⟩ w' ∧ Stay N b w w' := by
  obtain ⟨p, v, hp, h⟩ := h
  refine (wb_tel p v N b W col bg t c w hp h hz).mono ?_
  rintro e w' ⟨rfl, ⟨v', h1⟩, h2⟩
  exact ⟨rfl, ⟨_, v', .inr rfl, h1⟩, h2⟩
theorem TlAt.cells {N b : Nat} {W col : Int} {bg : Bool} {t : ByteArray} {w : World} (h : TlAt N b W ⟨t, col, bg⟩ w) :
    w.cell? ⟨b, 2, none⟩ = some (.int .i64 W) ∧ w.cell? ⟨b, 3, none⟩ = some (.int .i64 col) ∧ w.cell? ⟨b, 4, none⟩ = some (.bool bg) ∧ w.frozen? ⟨b, 3, none⟩ = false ∧ w.frozen? ⟨b, 4, none⟩ = false := by
  obtain ⟨p, v, hp, h⟩ := h
  have k := h.cells
  exact ⟨k.1, k.2.1, k.2.2.1, k.2.2.2 3, k.2.2.2 4⟩
theorem TlAt.col {N b : Nat} {W col : Int} {bg : Bool} {t : ByteArray} {w : World} (h : TlAt N b W ⟨t, col, bg⟩ w) (c : Int) : TlAt N b W ⟨t, c, bg⟩ (w.setCell ⟨b, 3, none⟩ (.int .i64 c)) := by
  obtain ⟨p, v, hp, h⟩ := h
  exact ⟨p, v, hp, h.col c⟩
theorem TlAt.bgs {N b : Nat} {W col : Int} {bg : Bool} {t : ByteArray} {w : World} (h : TlAt N b W ⟨t, col, bg⟩ w) (c : Bool) : TlAt N b W ⟨t, col, c⟩ (w.setCell ⟨b, 4, none⟩ (.bool c)) := by
  obtain ⟨p, v, hp, h⟩ := h
  exact ⟨p, v, hp, h.bgs c⟩
theorem TlAt.lt {N b : Nat} {W : Int} {st : Bk.St} {w : World} (h : TlAt N b W st w) : b < N ∧ N ≤ w.heap.size := by
  obtain ⟨p, v, hp, h⟩ := h
  exact ⟨h.1, h.2.1⟩
theorem TlAt.is54 {N b : Nat} {W : Int} {st : Bk.St} {w : World} (h : TlAt N b W st w) : Is54 b w := by
  obtain ⟨p, v, hp, h⟩ := h
  exact ⟨_, _, h.2.2.1⟩
/-- What a method of the teller leaves. -/
def TelPost (N b : Nat) (W : Int) (st : Bk.St) (w : World) (e : Ending) (w' : World) : Prop := e = .returned (.tuple #[]) ∧ TlAt N b W st w' ∧ Stay N b w w'
set_option maxRecDepth 100000 in
set_option maxHeartbeats 2000000 in
theorem feed_tel (N b : Nat) (W col : Int) (bg : Bool) (out : ByteArray) (w : World) (h : TlAt N b W ⟨out, col, bg⟩ w) (hz : out.size ≤ 1000000000) :
    Calls Try.prog 31 #[.pointer (some ⟨b, 0, none⟩)] w (TelPost N b W ⟨out ++ ⟨#[10]⟩, 0, false⟩ w) := by
  have HH := Lib.hid h
  clear h
  go_enter Try.func31, Try.ntmps31
  go_wp2_with (go_at_call 37; refine (wb_at N b W col bg out 10 _ HH.out hz).mono ?_)
  rintro e w1 ⟨rfl, h1, hst1⟩
  obtain ⟨c2, c3, c4, f3, f4⟩ := h1.cells
  have HH1 := Lib.hid h1
  have HST := Lib.hid hst1
  clear h1 hst1
  go_wp2
  go_end0
  exact ⟨rfl, (HH1.out.col 0).bgs false, (HST.out.trans (Stay.setCell HH1.out.is54 _ _)).trans (Stay.setCell (HH1.out.is54.setCell _ _) _ _)⟩
set_option maxRecDepth 100000 in
set_option maxHeartbeats 4000000 in
theorem text_begun (N b : Nat) (W col nest : Int) (out s : ByteArray) (w : World) (h : TlAt N b W ⟨out, col, true⟩ w) (hz : out.size + s.size ≤ 100000000) (h0 : 0 < s.size) (hc : 0 ≤ col ∧ col ≤ 1000000000) :
    Calls Try.prog 30 #[.pointer (some ⟨b, 0, none⟩), .string s, .int .i64 nest] w (TelPost N b W ⟨out ++ s, col + (Bk.widS s : Nat), true⟩ w) := by
  obtain ⟨c2, c3, c4, f3, f4⟩ := h.cells
  have hs1 : s.toList.isEmpty = false := some_text h0
  have HH := Lib.hid h
  have hws := Bk.widS_le s
  obtain ⟨hc0, hc1⟩ := hc
  clear h
  go_enter Try.func30, Try.ntmps30
  go_wp2_with (go_at_call 35; refine (ws_at N b W col true out s _ HH.out (by omega)).mono ?_)
  rintro e w1 ⟨rfl, h1, hst1⟩
  clear c2 c3 c4 f3 f4
  obtain ⟨c2, c3, c4, f3, f4⟩ := h1.cells
  have HH1 := Lib.hid h1
  have HST := Lib.hid hst1
  clear h1 hst1
  go_wp2
  go_region_with (go_at_call 17; refine (width_any s _ (by omega)).mono ?_; rintro e w2 ⟨rfl, hg⟩; have hb2 : Below w1.heap.size w1 w2 := (Below.drew (Below.refl _ w1)).trans hg; have HH2 := Lib.hid (HH1.out.below hb2); have HG := Lib.hid hb2; clear hg hb2; obtain ⟨d2, d3, d4, g3, g4⟩ := HH2.out.cells)
  all_goals
    go_wp2
    go_end0
    have hlt := HH1.out.lt
    have hw : IntKind.i64.wrap (col + (Bk.widS s : Nat)) = col + (Bk.widS s : Nat) := IntWalk.i64_in _ (by omega)
    rw [hw]
    exact ⟨rfl, (HH2.out.col _).bgs true, ((HST.out.trans (Stay.of_below HG.out hlt.1 hlt.2)).trans (Stay.setCell HH2.out.is54 _ _)).trans (Stay.setCell (HH2.out.is54.setCell _ _) _ _)⟩
set_option maxRecDepth 100000 in
set_option maxHeartbeats 4000000 in
theorem text_fresh (N b : Nat) (W col : Int) (m : Nat) (out s : ByteArray) (w : World) (h : TlAt N b W ⟨out, col, false⟩ w) (hz : out.size + m + s.size ≤ 100000000) (h0 : 0 < s.size) :
    Calls Try.prog 30 #[.pointer (some ⟨b, 0, none⟩), .string s, .int .i64 m] w (TelPost N b W ⟨out ++ Bk.manyS 32 m ++ s, m + (Bk.widS s : Nat), true⟩ w) := by
  obtain ⟨c2, c3, c4, f3, f4⟩ := h.cells
  have hs1 : s.toList.isEmpty = false := some_text h0
  have HH := Lib.hid h
  have hws := Bk.widS_le s
  have HMS := Lib.hid (Bk.manyS_size 32 m)
  have HLT := Lib.hid h.lt
  clear h
  obtain ⟨bl, hbl⟩ : ∃ bl, bl = Bk.manyS 32 m := ⟨_, rfl⟩
  have hbz : bl.size = m := by rw [hbl]; exact HMS.out
  have HBZ := Lib.hid hbz
  rw [← hbl]
  have HBL := Lib.hid hbl
  clear hbl hbz HMS
  go_enter Try.func30, Try.ntmps30
  go_wp2
  go_region_with (first
    | (go_at_call 36; refine (rep_any m _ (by omega)).mono ?_; rintro e w1 ⟨rfl, hg⟩; rw [← HBL.out]; have hb2 : Below w.heap.size w w1 := (Below.drew (Below.refl _ w)).trans hg; have HH1 := Lib.hid (HH.out.below hb2); have HG := Lib.hid hb2; clear hg hb2)
    | (go_at_call 35; refine (ws_at N b W col false out bl _ HH1.out (by rw [HBZ.out]; omega)).mono ?_; rintro e w3 ⟨rfl, h3, hst3⟩; have HH3 := Lib.hid h3; have HST3 := Lib.hid hst3; clear h3 hst3; obtain ⟨d2, d3, d4, g3, g4⟩ := HH3.out.cells))
  all_goals
    go_wp2_with (go_at_call 35; refine (ws_at N b W m false (out ++ bl) s _ (HH3.out.col m) (by rw [Bk.size_app, HBZ.out]; omega)).mono ?_)
    rintro e w4 ⟨rfl, h4, hst4⟩
    have HH4 := Lib.hid h4
    have HST4 := Lib.hid hst4
    clear h4 hst4 d2 d3 d4 g3 g4
    obtain ⟨d2, d3, d4, g3, g4⟩ := HH4.out.cells
    go_wp2
    go_region_with (go_at_call 17; refine (width_any s _ (by omega)).mono ?_; rintro e w5 ⟨rfl, hg⟩; have hb5 : Below w4.heap.size w4 w5 := (Below.drew (Below.refl _ w4)).trans hg; have HH5 := Lib.hid (HH4.out.below hb5); have HG5 := Lib.hid hb5; clear hg hb5; obtain ⟨e2, e3, e4, k3, k4⟩ := HH5.out.cells)
  all_goals
    go_wp2
    go_end0
    have hlt := HLT.out
    have hlt4 := HH4.out.lt
    have hw : IntKind.i64.wrap ((m : Int) + (Bk.widS s : Nat)) = (m : Int) + (Bk.widS s : Nat) := IntWalk.i64_in _ (by omega)
    rw [hw]
    exact ⟨rfl, (HH5.out.col _).bgs true, ((((((Stay.of_below HG.out hlt.1 hlt.2).trans HST3.out).trans (Stay.setCell HH3.out.is54 _ _)).trans HST4.out).trans (Stay.of_below HG5.out hlt4.1 hlt4.2)).trans (Stay.setCell HH5.out.is54 _ _)).trans (Stay.setCell (HH5.out.is54.setCell _ _) _ _)⟩
end Go.Proofs.Ythkpoiideiimaaa
