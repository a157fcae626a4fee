/- The reference's teller: a text: contract. -/
import Derived.Test.YthkpoiideiimaaaRef3
import Derived.Deep.RegionWith
import Derived.Deep.RegionLaw
namespace Go.Proofs.Ythkpoiideiimaaa
open Go Go.RowKit Go.PlainAid
set_option linter.unusedVariables false
open Bk (Fo)
/-- The block of the layout at hand. -/
def Bx (i : Nat) (k : Int) (s : ByteArray) (n : Int) (v : Value) (w : World) : Prop := w.heap[i]? = some (.cells #[.int .i64 k, .string s, .int .i64 n, v] 26 (0, 0))
theorem Bx.stay {i : Nat} {k n : Int} {s : ByteArray} {v : Value} {N b : Nat} {w w' : World} (h : Bx i k s n v w) (hs : RStay N b w w') : Bx i k s n v w' := (hs.typed i _ 26 (0, 0) h (by decide) (by decide)).trans h
theorem Bx.cells {i : Nat} {k n : Int} {s : ByteArray} {v : Value} {w : World} (h : Bx i k s n v w) :
    w.cell? ⟨i, 0, none⟩ = some (.int .i64 k) ∧ w.cell? ⟨i, 1, none⟩ = some (.string s) ∧ w.cell? ⟨i, 2, none⟩ = some (.int .i64 n) ∧ w.cell? ⟨i, 3, none⟩ = some v := by
  have h : w.heap[i]? = some (.cells #[.int .i64 k, .string s, .int .i64 n, v] 26 (0, 0)) := h
  exact ⟨by rw [Lib.cell_of_heap h]; rfl, by rw [Lib.cell_of_heap h]; rfl, by rw [Lib.cell_of_heap h]; rfl, by rw [Lib.cell_of_heap h]; rfl⟩
theorem bx_new (w : World) (k n : Int) (s : ByteArray) (v : Value) : Bx w.heap.size k s n v (w.alloc (.cells #[.int .i64 k, .string s, .int .i64 n, v] 26)) := heap_alloc_new w _
set_option maxRecDepth 100000 in
set_option maxHeartbeats 4000000 in
theorem rtext_none (N b : Nat) (W col nest : Int) (bg fl : Bool) (out s : ByteArray) (n : Int) (v : Value) (w : World) (h : RtAt N b W ⟨out, col, bg⟩ w) (h0 : s.size = 0) (hv : ∃ a L cp, v = .slice a L cp) :
    Calls Try.prog 26 #[.pointer (some ⟨b, 0, none⟩), .agg #[.int .i64 1, .string s, .int .i64 n, v], .int .i64 nest, .bool fl] w (RtPost N b W ⟨out, col, bg⟩ w) := by
  obtain ⟨a, L, cp, rfl⟩ := hv
  have hs1 : s.toList = [] := no_text h0
  have HB := Lib.hid ((Below.refl w.heap.size w).alloc (Nat.le_refl _) (.cells #[.int .i64 1, .string s, .int .i64 n, .slice a L cp] 26))
  have HH := Lib.hid h
  clear h
  go_enter Try.func26, Try.ntmps26
  go_wp2_with fail
  go_end0
  exact ⟨rfl, HH.out.below HB.out, RStay.of_below HB.out HH.out.lt.1 HH.out.lt.2⟩
set_option maxRecDepth 100000 in
set_option maxHeartbeats 4000000 in
theorem rtext_begun (N b : Nat) (W col nest : Int) (fl : Bool) (out s : ByteArray) (n : Int) (v : Value) (w : World) (h : RtAt N b W ⟨out, col, true⟩ w) (hz : out.size + s.size ≤ 100000000) (h0 : 0 < s.size) (hg : ∃ m, Bk.Gd s m) (hc : 0 ≤ col ∧ col ≤ 1000000000) (hv : ∃ a L cp, v = .slice a L cp) :
    Calls Try.prog 26 #[.pointer (some ⟨b, 0, none⟩), .agg #[.int .i64 1, .string s, .int .i64 n, v], .int .i64 nest, .bool fl] w (RtPost N b W ⟨out ++ s, col + (Bk.widS s : Nat), true⟩ w) := by
  obtain ⟨a, L, cp, rfl⟩ := hv
  obtain ⟨m, hg⟩ := hg
  have HG := Lib.hid hg
  have hs1 : s.toList.isEmpty = false := some_text h0
  have hws := Bk.widS_le s
  obtain ⟨hc0, hc1⟩ := hc
  have HLT := Lib.hid h.lt
  have HB := Lib.hid ((Below.refl w.heap.size w).alloc (Nat.le_refl _) (.cells #[.int .i64 1, .string s, .int .i64 n, .slice a L cp] 26))
  have HBX := Lib.hid (bx_new w 1 n s (.slice a L cp))
  have H0 := Lib.hid (h.below HB.out)
  obtain ⟨v, ⟨c0, c1, c2, c3, f0, f1, f2⟩, HH⟩ := H0.out.rcells
  have hne : w.heap.size ≠ b := by have := HLT.out; omega
  clear h hg
  go_enter Try.func26, Try.ntmps26
  go_wp2_with fail
  go_region_law (refine step_rs rfl (.tmp 49) (.tmp 51) rfl v s rfl rfl HH (by omega) (Below.drew (Below.refl _ _)) ?_; rintro ao nn cp2 w1 ⟨d0, d1, d2, d3, g0, g1, g2⟩ H1 HST; have HBX1 := Lib.hid (HBX.out.stay HST.out.1); obtain ⟨x0, x1, x2, x3⟩ := HBX1.out.cells)
  all_goals
    obtain ⟨w2, hw2⟩ : ∃ w2, w2 = w1.setCell ⟨b, 0, none⟩ (.slice ao nn cp2) := ⟨_, rfl⟩
    rw [← hw2]
    have H2 : Hid (RtAt N b W ⟨out ++ s, col, true⟩ w2) := Lib.hid (by rw [hw2]; exact H1.out)
    have HST2 : Hid (RStay N b w w2) := Lib.hid (by rw [hw2]; exact (RStay.of_below HB.out HLT.out.1 HLT.out.2).trans (HST.out.1.trans (RStay.setCell HST.out.2 _ _)))
    have HBX2 : Hid (Bx w.heap.size 1 s n (.slice a L cp) w2) := Lib.hid (by rw [hw2]; exact HBX1.out.stay (RStay.setCell (N := N) HST.out.2 _ _))
    clear d0 d1 d2 d3 g0 g1 g2 x0 x1 x2 x3 c0 c1 c2 c3 f0 f1 f2 hw2
    obtain ⟨x0, x1, x2, x3⟩ := HBX2.out.cells
    obtain ⟨v2, ⟨c0, c1, c2, c3, f0, f1, f2⟩, HH2⟩ := H2.out.rcells
    go_wp2_with fail
    go_region_with (go_at_call 23; refine (width23_any s m _ (by omega) HG.out).mono ?_; rintro e w3 ⟨rfl, hg⟩; have hb2 : Below w2.heap.size w2 w3 := (Below.drew (Below.refl _ w2)).trans hg; have H3 := Lib.hid (H2.out.below hb2); have HG3 := Lib.hid hb2; clear hg hb2; obtain ⟨v3, ⟨d0, d1, d2, d3, g0, g1, g2⟩, HH3⟩ := H3.out.rcells)
  all_goals
    go_wp2_with fail
    go_end0
    have hlt := H2.out.lt
    have hw : IntKind.i64.wrap (col + (Bk.widS s : Nat)) = col + (Bk.widS s : Nat) := IntWalk.i64_in _ (by omega)
    rw [hw]
    exact ⟨rfl, H3.out.col _, (HST2.out.trans (RStay.of_below HG3.out hlt.1 hlt.2)).trans (RStay.setCell H3.out.is59 _ _)⟩
end Go.Proofs.Ythkpoiideiimaaa
