/- The maker: a nest: contract. -/
import Derived.Test.YthkpoiideiimaaaMak4
namespace Go.Proofs.Ythkpoiideiimaaa
open Go Go.RowKit Go.PlainAid
set_option linter.unusedVariables false
open Bk (Fo)
set_option maxRecDepth 100000 in
set_option maxHeartbeats 8000000 in
theorem lay_nest (f : Nat) (ih : LayC f) (mb : Nat) (a : Option Addr) (len cap : Nat) (z : List Int) (p : Nat) (hard : Bool) (d : Int) (w : World) (h : Mk mb a len cap z p w) (hp : p ≤ len) (hl : len ≤ 1000) (hd0 : 0 ≤ d) (hd : d + (f + 1) = 6) (hc : (7 : Int) = (Bk.pickS z len 10 p).1) :
    Calls Try.prog 21 #[.pointer (some ⟨mb, 0, none⟩), .int .i64 d, .bool hard] w (LayPost mb a len cap z (Bk.layS z len hard (f + 1) p) w) := by
  obtain ⟨i0, hi, hz0, hz1, hz2⟩ := info_parts Try.info26
  have hlt := h.lt
  have H := Lib.hid h
  have HA := Lib.hid ((Below.refl w.heap.size w).alloc (Nat.le_refl _) (.cells #[.int .i64 0, .string ByteArray.empty, .int .i64 0, .slice none 0 0] 26))
  obtain ⟨q, hq⟩ : ∃ q, q = (Bk.pickS z len 10 p).2 := ⟨_, rfl⟩
  have hql : q ≤ len := by rw [hq]; exact (Bk.pick_le hp).2.1
  obtain ⟨nn, hnn⟩ : ∃ nn : Int, nn = (Bk.numS z len 7 q).1 := ⟨_, rfl⟩
  obtain ⟨q2, hq2⟩ : ∃ q2, q2 = (Bk.numS z len 7 q).2 := ⟨_, rfl⟩
  have hq2l : q2 ≤ len := by rw [hq2]; exact (Bk.pick_le hql).2.1
  obtain ⟨cn, hcn⟩ : ∃ cn : Nat, cn = (Bk.pickS z len 5 q2).1 := ⟨_, rfl⟩
  obtain ⟨q3, hq3⟩ : ∃ q3, q3 = (Bk.pickS z len 5 q2).2 := ⟨_, rfl⟩
  have hq3l : q3 ≤ len := by rw [hq3]; exact (Bk.pick_le hq2l).2.1
  have hcn5 : cn < 5 := by have := Bk.pick_lt (z := z) (len := len) (n := 5) (p := q2) (by omega); rw [hcn]; omega
  have HXX : Hid (Bk.layS z len hard (f + 1) p = (⟨6, ByteArray.empty, nn, (Bk.timesS (Bk.layS z len hard f) cn q3).1⟩, (Bk.timesS (Bk.layS z len hard f) cn q3).2)) := Lib.hid (by
    rw [Bk.layS, ← hc, if_pos (by decide), ← hq, ← hnn, ← hq2, ← hcn, ← hq3]; rfl)
  have HC := Lib.hid hc
  have HQ := Lib.hid hq
  have HNN := Lib.hid hnn
  have HQ2 := Lib.hid hq2
  have HCN := Lib.hid hcn
  have HCNI : Hid ((cn : Int) = ((Bk.pickS z len 5 q2).1 : Nat)) := Lib.hid (by rw [hcn])
  have HQ3 := Lib.hid hq3
  have HIH := Lib.hid ih
  have hd5 : ¬ 5 < d := by omega
  have HD : Hid (d + 1 + f = 6) := Lib.hid (by omega)
  have hd6 : d ≤ 5 := by omega
  clear h hc hq hnn hq2 hcn hq3 ih hd
  go_enter Try.func21, Try.ntmps21
  go_wp2_with fail
  refine (pick_at mb a len cap z 10 p 7 q _ (by omega) (by omega) (H.out.below HA.out) hp hl HC.out HQ.out).mono ?_
  rintro e w1 ⟨rfl, hm1, hs1⟩
  have HM := Lib.hid hm1
  have HS := Lib.hid (hs1.from_alloc hlt)
  have hsz := hs1.below.size
  simp at hsz
  have HRB : Hid (w1.heap[w.heap.size]? = some (.cells #[.int .i64 0, .string ByteArray.empty, .int .i64 0, .slice none 0 0] 26 (0, 0))) := Lib.hid ((hs1.blk w.heap.size (by simp) (by omega)).trans (heap_alloc_new w _))
  clear hm1 hs1
  go_wp2_with fail
  obtain ⟨wL, hwL⟩ : ∃ wL, wL = ((w1.alloc (.cells #[.int .i64 5, .int .i64 6, .int .i64 7, .int .i64 7] 3)).alloc (.cells #[.int .i64 6, .string ⟨#[]⟩, .int .i64 0, .slice none 0 0] 26)) := ⟨_, rfl⟩
  rw [← hwL]
  have HBL : Hid (Below w1.heap.size w1 wL) := Lib.hid (by rw [hwL]; exact ((Below.refl _ _).alloc (Nat.le_refl _) _).alloc (by simp) _)
  have HLB : Hid (wL.heap[w1.heap.size + 1]? = some (.cells #[.int .i64 6, .string ByteArray.empty, .int .i64 0, .slice none 0 0] 26 (0, 0))) := Lib.hid (by
    have h1 : (w1.alloc (.cells #[.int .i64 5, .int .i64 6, .int .i64 7, .int .i64 7] 3)).heap.size = w1.heap.size + 1 := by simp
    rw [hwL, ← h1]
    exact heap_alloc_new _ _)
  have HML := Lib.hid (HM.out.below HBL.out)
  have HSL := Lib.hid (HS.out.trans (MStay.of_below HBL.out HM.out.lt))
  have HRL : Hid (wL.heap[w.heap.size]? = some (.cells #[.int .i64 0, .string ByteArray.empty, .int .i64 0, .slice none 0 0] 26 (0, 0))) := Lib.hid ((HBL.out.block w.heap.size (by omega)).trans HRB.out)
  have hml : mb < w1.heap.size + 1 := by omega
  clear hwL
  refine (pick_at mb a len cap z 5 q nn q2 _ (by omega) (by omega) HML.out hql hl HNN.out HQ2.out).mono ?_
  rintro e w2 ⟨rfl, hm2, hs2⟩
  have hb2 := (hs2.blk (w1.heap.size + 1) (blk_lt HLB.out) (by omega)).trans HLB.out
  have hcl : w2.cell? ⟨w1.heap.size + 1, 2, none⟩ = some (.int .i64 0) := by rw [Lib.cell_of_heap hb2]; rfl
  have hfl : w2.frozen? ⟨w1.heap.size + 1, 2, none⟩ = false := Lib.frozen_of_heap hb2 2
  have HB2 := Lib.hid hb2
  have HM2 := Lib.hid hm2
  have HS2 := Lib.hid (HSL.out.trans hs2)
  have HR2 := Lib.hid ((hs2.blk w.heap.size (blk_lt HRL.out) (by omega)).trans HRL.out)
  clear hb2 hm2 hs2
  go_wp2_with fail
  obtain ⟨wS, hwS⟩ : ∃ wS, wS = w2.setCell ⟨w1.heap.size + 1, 2, none⟩ (.int .i64 nn) := ⟨_, rfl⟩
  rw [← hwS]
  have HML : Hid (Mk mb a len cap z q2 wS) := Lib.hid (by rw [hwS]; exact HM2.out.put hml _ _)
  have HSL : Hid (MStay mb w wS) := Lib.hid (by rw [hwS]; exact HS2.out.put (by omega) hlt _ _)
  have HRL : Hid (wS.heap[w.heap.size]? = some (.cells #[.int .i64 0, .string ByteArray.empty, .int .i64 0, .slice none 0 0] 26 (0, 0))) := Lib.hid (by rw [hwS]; exact (Below.heap_setCell _ _ _ _ (by show w.heap.size ≠ w1.heap.size + 1; omega)).trans HR2.out)
  have HLB : Hid (wS.heap[w1.heap.size + 1]? = some (.cells #[.int .i64 6, .string ByteArray.empty, .int .i64 nn, .slice none 0 0] 26 (0, 0))) := Lib.hid (by rw [hwS]; simp [World.setCell, Array.getElem?_modify, HB2.out])
  clear hwS hcl hfl
  refine (pick_at mb a len cap z 5 q2 cn q3 _ (by omega) (by omega) HML.out hq2l hl HCNI.out HQ3.out).mono ?_
  rintro e w3 ⟨rfl, hm3, hs3⟩
  have HL0 : Hid (LM mb a len cap z w w.heap.size (w1.heap.size + 1) 6 nn (.slice none 0 0) .nil [] q3 w3) := Lib.hid (LM.init ((hs3.blk (w1.heap.size + 1) (blk_lt HLB.out) (by omega)).trans HLB.out) (by omega) ⟨by omega, by omega⟩ ((hs3.blk w.heap.size (blk_lt HRL.out) (by omega)).trans HRL.out) hm3 hlt (HSL.out.trans hs3))
  clear hm3 hs3 HML HSL HRL HLB
  have hlsz : w.heap.size < w1.heap.size + 1 := by omega
  go_wp2_with fail
  go_loopw [10] (fun iv wr => ∃ (P : Fo) (vs : List Value) (v : Value) (q1 : Nat), P.len ≤ cn ∧ iv = .int .i64 P.len ∧ q1 ≤ len ∧ Hid ((P, q1) = Bk.timesS (Bk.layS z len hard f) P.len q3) ∧ Hid (LM mb a len cap z w w.heap.size (w1.heap.size + 1) 6 nn v P vs q1 wr)) (fun iv _ => cn - (intOf iv).toNat)
  case atStart => exact ⟨.nil, [], .slice none 0 0, q3, by show (0 : Nat) ≤ _; omega, rfl, hq3l, Lib.hid rfl, HL0⟩
  case round =>
    obtain ⟨P, vs, v, q1, hic, rfl, hq1l, HT, HL⟩ := hrel
    obtain ⟨d0, d1, d2, d3, df⟩ := HL.out.cells
    by_cases hlt2 : P.len < cn
    · obtain ⟨⟨⟨k1, t1, n1, kids1⟩, q4⟩, hx1⟩ : ∃ x1, x1 = Bk.layS z len hard f q1 := ⟨_, rfl⟩
      have HX1 := Lib.hid hx1
      have hq4l : q4 ≤ len := by have := Bk.lay_le z len hard f q1 hq1l; rw [← hx1] at this; exact this
      have HT2 : Hid ((P.app (.cons k1 t1 n1 kids1 .nil), q4) = Bk.timesS (Bk.layS z len hard f) (P.len + 1) q3) := Lib.hid (Bk.times_succ _ _ _ HT.out hx1.symm)
      have HPL : Hid ((P.app (.cons k1 t1 n1 kids1 .nil)).len = P.len + 1) := Lib.hid (by rw [Fo.app_len]; rfl)
      have HMD : Hid (Mk mb a len cap z q1 wr.drew) := Lib.hid (HL.out.mkr.below (Below.drew (Below.refl _ wr)))
      have hw1 : IntKind.i64.wrap (d + 1) = d + 1 := IntWalk.i64_in _ (by omega)
      have HLS := Lib.hid HL.out.lt
      clear hx1 d0 d1 d2 df
      go_wp2_with fail
      go_region_law (first
        | (go_simp; go_at_call 21; go_loud (refine (HIH.out mb a len cap z q1 hard (d + 1) _ HMD.out hq1l hl (by omega) HD.out).mono ?_; rintro e w2 hpost; rw [← HX1.out] at hpost; obtain ⟨a2, cp2, rfl, hsl, hmk, hst⟩ := hpost; have HL2 := Lib.hid (HL.out.call ((MStay.of_below (Below.drew (Below.refl _ wr)) HL.out.mkr.lt).trans hst) hmk); have HSK := Lib.hid hsl; clear hsl hmk hst; obtain ⟨d0, d1, d2, d3, df⟩ := HL2.out.cells; have hls2 := HL2.out.lt; clear d0 d1 d2))
        | (refine step_append_lies _ rfl (.tmp 65) (.tmp 71) 24 rfl (w1.heap.size + 1 + 1) 26 i0 _ 4 56 Try.underlying24 hi hz0 hz1 hz2 rfl (by decide) v P.len vs rfl (HL2.out.own.alloc _) ⟨w2.heap.size, 0, none⟩ 1 1 [.int .i64 k1, .string t1, .int .i64 n1, .slice a2 kids1.len cp2] rfl rfl (World.news_of_block (heap_alloc_new w2 _)) (by simp [Value.oneCell']) (by omega) ?_ ?_ ?_ (w2.heap.size + 1) (by simp) ?_; (unfold maxLen; omega); omega; (simp; omega); intro g c4 w4 hown hgrow hat hlt4; obtain ⟨s3, sf⟩ := HL2.out.grown ((Below.refl _ _).alloc (Nat.le_refl _) (.cells #[.int .i64 k1, .string t1, .int .i64 n1, .slice a2 kids1.len cp2] 26)) hgrow; have HL4 := Lib.hid (HL2.out.app ((Below.refl _ _).alloc (Nat.le_refl _) (.cells #[.int .i64 k1, .string t1, .int .i64 n1, .slice a2 kids1.len cp2] 26)) (HSK.out.weak (fun i _ hi => lay_ok HL.out hi)) hown hgrow (by simpa using hat)); clear hown hgrow hat))
      all_goals
        go_wp2_with fail
        go_roundw
        case rel => exact ⟨P.app (.cons k1 t1 n1 kids1 .nil), _, .slice (some ⟨g, 0, none⟩) (P.len + 1) c4, q4, by rw [HPL.out]; omega, by rw [HPL.out]; go_num, hq4l, Lib.hid (by rw [HPL.out]; exact HT2.out), HL4⟩
        case measure => simp [intOf]; omega
    · have HPc : Hid (P.len = cn) := Lib.hid (by omega)
      obtain ⟨r0, r1, r2, r3, f0, f1, f2, f3⟩ := HL.out.res_cells
      obtain ⟨a', cp', hv, hsl⟩ := HL.out.slice
      have HSL := Lib.hid hsl
      have HT3 : Hid ((P, q1) = Bk.timesS (Bk.layS z len hard f) cn q3) := Lib.hid (by rw [← HPc.out]; exact HT.out)
      have HX : Hid (Bk.layS z len hard (f + 1) p = (⟨6, ByteArray.empty, nn, P⟩, q1)) := Lib.hid (by rw [HXX.out, ← HT3.out])
      subst hv
      clear hsl
      obtain ⟨m, hm⟩ : ∃ m, m = P.len := ⟨_, rfl⟩
      have HM0 := Lib.hid hm
      rw [← hm] at hic hlt2 d3 ⊢
      clear hm
      go_wp2_with fail
      have hno : ∀ i, w1.heap.size + 1 < i → i ≠ w.heap.size := fun i hi => by omega
      have hfin := lay_post (w := w) (w' := (((wr.setCell ⟨w.heap.size, 0, none⟩ (.int .i64 6)).setCell ⟨w.heap.size, 1, none⟩ (.string ByteArray.empty)).setCell ⟨w.heap.size, 2, none⟩ (.int .i64 nn)).setCell ⟨w.heap.size, 3, none⟩ (.slice a' P.len cp')) (cp' := cp') HX.out ((sl_set (sl_set (sl_set (sl_set HSL.out hno 0 _) hno 1 _) hno 2 _) hno 3 _).weak (fun i _ hi => by omega)) ((((HL.out.mkr.put hlt 0 _).put hlt 1 _).put hlt 2 _).put hlt 3 _) ((((HL.out.stay.put (Nat.le_refl _) hlt 0 _).put (Nat.le_refl _) hlt 1 _).put (Nat.le_refl _) hlt 2 _).put (Nat.le_refl _) hlt 3 _)
      rw [← HM0.out] at hfin
      exact bodyPost_ret (v := .agg #[.int .i64 6, .string ByteArray.empty, .int .i64 nn, .slice a' m cp']) (by simp [results, Try.results21, go_sem, r0, r1, r2, r3] <;> rfl) rfl hfin
end Go.Proofs.Ythkpoiideiimaaa
