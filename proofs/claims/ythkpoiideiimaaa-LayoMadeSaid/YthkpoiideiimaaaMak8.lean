/- made: contract. -/
import Derived.Test.YthkpoiideiimaaaMak7
namespace Go.Proofs.Ythkpoiideiimaaa
open Go Go.RowKit Go.PlainAid
set_option linter.unusedVariables false
open Bk (Fo)
namespace Bk
theorem times_ge (g : Nat → Nd × Nat) (len : Nat) (hg : ∀ q, q ≤ len → q ≤ (g q).2) (hl : ∀ q, q ≤ len → (g q).2 ≤ len) : ∀ c p, p ≤ len → p ≤ (timesS g c p).2
  | 0, p, h => Nat.le_refl _
  | c + 1, p, h => Nat.le_trans (times_ge g len hg hl c p h) (hg _ (times_le g len hl c p h))
theorem lay_ge (z : List Int) (len : Nat) (hard : Bool) : ∀ f p, p ≤ len → (pickS z len 10 p).2 ≤ (layS z len hard f p).2
  | 0, p, h => by
    have hp := pick_le (z := z) (n := 10) h
    rw [layS]; exact (leaf_good z len hard _ _ _ (Nat.le_refl _) hp.2.1).le
  | f + 1, p, h => by
    have hp := pick_le (z := z) (n := 10) h
    rw [layS]
    split
    · have hn0 : (pickS z len 10 p).2 ≤ (numS z len ((pickS z len 10 p).1 : Nat) (pickS z len 10 p).2).2 := by
        unfold numS; split
        · exact (pick_le hp.2.1).1
        · exact Nat.le_refl _
      have hn1 := num_le z len ((pickS z len 10 p).1 : Nat) (pickS z len 10 p).2 hp.2.1
      have hc := pick_le (z := z) (n := 5) hn1
      have ht := times_ge (layS z len hard f) len (fun q hq => (lay_good z len hard f q hq).le) (fun q hq => lay_le z len hard f q hq) (pickS z len 5 (numS z len ((pickS z len 10 p).1 : Nat) (pickS z len 10 p).2).2).1 _ hc.2.1
      exact Nat.le_trans hn0 (Nat.le_trans hc.1 ht)
    · exact (leaf_good z len hard _ _ _ (Nat.le_refl _) hp.2.1).le
theorem lay_more (z : List Int) (len : Nat) (hard : Bool) (f p : Nat) (h : p < len) : p + 1 ≤ (layS z len hard f p).2 := by
  have := lay_ge z len hard f p (by omega)
  have e : (pickS z len 10 p).2 = p + 1 := by unfold pickS; rw [if_pos h]
  omega
/-- What a layout of numbers has within. -/
structure MadeF (len : Nat) (F : Fo) : Prop where
  good : GoodF F
  short : ShortF F
  flen : F.len ≤ len
  cost : costF F ≤ 12 * len
  nst : nstF F ≤ 4 * len
end Bk
/-- What made hands back. -/
def MadePost (len : Nat) (w : World) (e : Ending) (w' : World) : Prop :=
  ∃ F a cp, e = .returned (.agg #[.int .i64 5, .string ByteArray.empty, .int .i64 0, .slice a F.len cp]) ∧ SlAt w' (fun i => w.heap.size ≤ i) a F ∧ Bk.MadeF len F ∧ Below w.heap.size w w'
set_option maxRecDepth 100000 in
set_option maxHeartbeats 8000000 in
theorem made_any (a : Option Addr) (len cap : Nat) (z : List Int) (hard : Bool) (w : World) (hl : len ≤ 1000) (hz : len = 0 ∨ ∃ b off, a = some ⟨b, off, none⟩ ∧ b < w.heap.size ∧ ∀ j, j < len → w.cell? ⟨b, off + j, none⟩ = some (.int .i64 (z.getD j 0))) :
    Calls Try.prog 10 #[.slice a len cap, .bool hard] w (MadePost len w) := by
  obtain ⟨i0, hi, hz0, hz1, hz2⟩ := info_parts Try.info26
  obtain ⟨wM, hwM⟩ : ∃ wM, wM = ((w.alloc (.cells #[.int .i64 0, .string ByteArray.empty, .int .i64 0, .slice none 0 0] 26)).alloc (.cells #[.slice a len cap, .int .i64 0] 41)) := ⟨_, rfl⟩
  have hsz : wM.heap.size = w.heap.size + 1 + 1 := by rw [hwM]; simp
  have hbM : Below w.heap.size w wM := by rw [hwM]; exact ((Below.refl _ _).alloc (Nat.le_refl _) _).alloc (by simp) _
  have hres : wM.heap[w.heap.size]? = some (.cells #[.int .i64 0, .string ByteArray.empty, .int .i64 0, .slice none 0 0] 26 (0, 0)) := by
    rw [hwM, Below.heap_alloc _ _ _ (by simp)]; exact heap_alloc_new w _
  have hmkb : wM.heap[w.heap.size + 1]? = some (.cells #[.slice a len cap, .int .i64 0] 41 (0, 0)) := by
    have h1 : (w.alloc (.cells #[.int .i64 0, .string ByteArray.empty, .int .i64 0, .slice none 0 0] 26)).heap.size = w.heap.size + 1 := by simp
    rw [hwM, ← h1]; exact heap_alloc_new _ _
  have hMk : Mk (w.heap.size + 1) a len cap z 0 wM := by
    refine ⟨hmkb, ?_⟩
    rcases hz with h0 | ⟨b, off, rfl, hb, hc⟩
    · exact .inl h0
    · exact .inr ⟨b, off, rfl, by omega, fun j hj => (hbM.cell (p := ⟨b, off + j, none⟩) hb).trans (hc j hj)⟩
  obtain ⟨wL, hwL⟩ : ∃ wL, wL = wM.alloc (.cells #[.int .i64 5, .string ⟨#[]⟩, .int .i64 0, .slice none 0 0] 26) := ⟨_, rfl⟩
  have HL0 : Hid (LM (w.heap.size + 1) a len cap z wM w.heap.size (w.heap.size + 1 + 1) 5 0 (.slice none 0 0) .nil [] 0 wL) := Lib.hid (by
    have hbl : Below wM.heap.size wM wL := by rw [hwL]; exact (Below.refl _ _).alloc (Nat.le_refl _) _
    refine LM.init ?_ (by omega) ⟨by omega, by omega⟩ ((hbl.block _ (by omega)).trans hres) (hMk.below hbl) (by omega) (MStay.of_below hbl (by omega))
    rw [hwL, ← hsz]; exact heap_alloc_new _ _)
  have HWL := Lib.hid hwL
  have HWM := Lib.hid hwM
  have HBM := Lib.hid hbM
  have HSZ := Lib.hid hsz
  clear hwL hwM hbM hsz hres hmkb hMk hz
  go_enter Try.func10, Try.ntmps10
  go_wp2_with fail
  have e : (((w.alloc (.cells #[.int .i64 0, .string ⟨#[]⟩, .int .i64 0, .slice none 0 0] 26)).alloc (.cells #[.slice a len cap, .int .i64 0] 41)).alloc (.cells #[.int .i64 5, .string ⟨#[]⟩, .int .i64 0, .slice none 0 0] 26)) = wL := by rw [HWL.out, HWM.out]; rfl
  rw [e]
  clear e
  go_loopw [11] (fun _ wr => ∃ (P : Fo) (vs : List Value) (v : Value) (q1 : Nat), q1 ≤ len ∧ P.len ≤ q1 ∧ Hid (Bk.GoodT P P.len 0 q1) ∧ Hid (LM (w.heap.size + 1) a len cap z wM w.heap.size (w.heap.size + 1 + 1) 5 0 v P vs q1 wr)) (fun _ wr => len - (intOf ((wr.cell? ⟨w.heap.size + 1, 1, none⟩).getD (.int .i64 0))).toNat)
  case atStart => exact ⟨.nil, [], .slice none 0 0, 0, by omega, by show 0 ≤ 0; omega, Lib.hid ⟨trivial, trivial, rfl, by simp [Bk.costF], by simp [Bk.nstF], Nat.le_refl _⟩, HL0⟩
  case round =>
    obtain ⟨P, vs, v, q1, hq1l, hPq, HT, HL⟩ := hrel
    obtain ⟨d0, d1, d2, d3, df⟩ := HL.out.cells
    obtain ⟨m0, m1, mf⟩ := HL.out.mkr.cells
    by_cases hlt2 : q1 < len
    · obtain ⟨⟨⟨k1, t1, n1, kids1⟩, q4⟩, hx1⟩ : ∃ x1, x1 = Bk.layS z len hard 6 q1 := ⟨_, rfl⟩
      have HX1 := Lib.hid hx1
      have hq4l : q4 ≤ len := by have := Bk.lay_le z len hard 6 q1 hq1l; rw [← hx1] at this; exact this
      have hq4m : q1 + 1 ≤ q4 := by have := Bk.lay_more z len hard 6 q1 hlt2; rw [← hx1] at this; exact this
      have HPL : Hid ((P.app (.cons k1 t1 n1 kids1 .nil)).len = P.len + 1) := Lib.hid (by rw [Fo.app_len]; rfl)
      have HT2 : Hid (Bk.GoodT (P.app (.cons k1 t1 n1 kids1 .nil)) (P.app (.cons k1 t1 n1 kids1 .nil)).len 0 q4) := Lib.hid (by
        rw [HPL.out]
        have := Bk.lay_good z len hard 6 q1 hq1l
        rw [← hx1] at this
        exact HT.out.put this)
      have HMD : Hid (Mk (w.heap.size + 1) a len cap z q1 wr.drew) := Lib.hid (HL.out.mkr.below (Below.drew (Below.refl _ wr)))
      have HLS := Lib.hid HL.out.lt
      have hPl : P.len ≤ 1000 := by omega
      clear hx1 d0 d1 d2 df m0 mf
      go_wp2_with fail
      go_region_law (first
        | (go_simp; go_at_call 21; go_loud (refine (lay_all 6 (w.heap.size + 1) a len cap z q1 hard 0 _ HMD.out hq1l hl (by omega) (by omega)).mono ?_; rintro e w2 hpost; rw [← HX1.out] at hpost; obtain ⟨a2, cp2, rfl, hsl, hmk, hst⟩ := hpost; have HL2 := Lib.hid (HL.out.call ((MStay.of_below (Below.drew (Below.refl _ wr)) HL.out.mkr.lt).trans hst) hmk); have HSK := Lib.hid hsl; clear hsl hmk hst; obtain ⟨d0, d1, d2, d3, df⟩ := HL2.out.cells; have hls2 := HL2.out.lt; clear d0 d1 d2))
        | (refine step_append_lies _ rfl (.tmp 19) (.tmp 23) 24 rfl (w.heap.size + 1 + 1 + 1) 26 i0 _ 4 56 Try.underlying24 hi hz0 hz1 hz2 rfl (by decide) v P.len vs rfl (HL2.out.own.alloc _) ⟨w2.heap.size, 0, none⟩ 1 1 [.int .i64 k1, .string t1, .int .i64 n1, .slice a2 kids1.len cp2] rfl rfl (World.news_of_block (heap_alloc_new w2 _)) (by simp [Value.oneCell']) (by omega) ?_ ?_ ?_ (w2.heap.size + 1) (by simp) ?_; (unfold maxLen; omega); omega; (simp; omega); intro g c4 w4 hown hgrow hat hlt4; obtain ⟨s3, sf⟩ := HL2.out.grown ((Below.refl _ _).alloc (Nat.le_refl _) (.cells #[.int .i64 k1, .string t1, .int .i64 n1, .slice a2 kids1.len cp2] 26)) hgrow; have HL4 := Lib.hid (HL2.out.app ((Below.refl _ _).alloc (Nat.le_refl _) (.cells #[.int .i64 k1, .string t1, .int .i64 n1, .slice a2 kids1.len cp2] 26)) (HSK.out.weak (fun i _ hi => lay_ok HL.out hi)) hown hgrow (by simpa using hat)); clear hown hgrow hat))
      all_goals
        have m4 := HL4.out.mkr.cells.2.1
        go_wp2_with fail
        go_roundw
        case rel => exact ⟨P.app (.cons k1 t1 n1 kids1 .nil), _, .slice (some ⟨g, 0, none⟩) (P.len + 1) c4, q4, hq4l, by rw [HPL.out]; omega, HT2, HL4⟩
        case measure =>
          rw [m4, m1]
          simp [intOf]; omega
    · have HQ : Hid (q1 = len) := Lib.hid (by omega)
      obtain ⟨r0, r1, r2, r3, f0, f1, f2, f3⟩ := HL.out.res_cells
      obtain ⟨a', cp', hv, hsl⟩ := HL.out.slice
      have HSL := Lib.hid hsl
      have HMF : Hid (Bk.MadeF len P) := Lib.hid ⟨HT.out.good, HT.out.short, by omega, by have := HT.out.cost; omega, by have := HT.out.nst; omega⟩
      subst hv
      clear hsl
      obtain ⟨m, hm⟩ : ∃ m, m = P.len := ⟨_, rfl⟩
      have HM0 := Lib.hid hm
      rw [← hm] at hPq d3
      clear hm
      go_wp2_with fail
      have hno : ∀ i, w.heap.size + 1 + 1 < i → i ≠ w.heap.size := fun i hi => by omega
      have hbe : Below w.heap.size w wr := HBM.out.trans (HL.out.stay.below.mono (by omega))
      have hfin : MadePost len w (.returned (.agg #[.int .i64 5, .string ByteArray.empty, .int .i64 0, .slice a' m cp'])) ((((wr.setCell ⟨w.heap.size, 0, none⟩ (.int .i64 5)).setCell ⟨w.heap.size, 1, none⟩ (.string ByteArray.empty)).setCell ⟨w.heap.size, 2, none⟩ (.int .i64 0)).setCell ⟨w.heap.size, 3, none⟩ (.slice a' m cp')) := by
        refine ⟨P, a', cp', by rw [HM0.out], (sl_set (sl_set (sl_set (sl_set HSL.out hno 0 _) hno 1 _) hno 2 _) hno 3 _).weak (fun i _ hi => by omega), HMF.out, ?_⟩
        exact (((hbe.setCell (p := ⟨w.heap.size, 0, none⟩) (Nat.le_refl _) _).setCell (p := ⟨w.heap.size, 1, none⟩) (Nat.le_refl _) _).setCell (p := ⟨w.heap.size, 2, none⟩) (Nat.le_refl _) _).setCell (p := ⟨w.heap.size, 3, none⟩) (Nat.le_refl _) _
      exact bodyPost_ret (v := .agg #[.int .i64 5, .string ByteArray.empty, .int .i64 0, .slice a' m cp']) (by simp [results, Try.results10, go_sem, r0, r1, r2, r3] <;> rfl) rfl hfin
end Go.Proofs.Ythkpoiideiimaaa
