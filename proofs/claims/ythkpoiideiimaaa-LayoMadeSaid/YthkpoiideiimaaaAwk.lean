/- awake: contract; Wide and Show of a layout: short forms. -/
import Derived.Test.YthkpoiideiimaaaTel7
namespace Go.Proofs.Ythkpoiideiimaaa
open Go Go.RowKit Go.PlainAid
set_option linter.unusedVariables false
open Bk (Fo)
theorem wide_at (k n : Int) (t : ByteArray) (kids : Fo) (a : Option Addr) (cp L : Nat) (r : Option Nat) (w : World) (hL : kids.len = L) (hr : Bk.nodeW k t kids = r) (hs : SlAt w (fun _ => True) a kids) (h : Lays k n t kids) :
    Calls Try.prog 12 #[.agg #[.int .i64 k, .string t, .int .i64 n, .slice a L cp]] w (WidePost r w) := by
  subst hL hr
  obtain ⟨hG, hS, hl, hne, hc⟩ := h
  obtain ⟨_, _, hk, hleaf, hn, hgk, _⟩ := hG
  exact wide12_any k n t kids a cp w hk hn hs hgk hS hl (by omega) (by omega)
theorem show_at (width k n : Int) (t : ByteArray) (kids : Fo) (a : Option Addr) (cp L : Nat) (s : ByteArray) (w : World) (hL : kids.len = L) (hr : Bk.showN (max width 0) k t n kids = s) (hs : SlAt w (fun _ => True) a kids) (h : Lays k n t kids) (hW : width ≤ 9223372036854775807) :
    Calls Try.prog 14 #[.int .i64 width, .agg #[.int .i64 k, .string t, .int .i64 n, .slice a L cp]] w (ShowPost s w) := by
  subst hL hr
  exact show_any width k n t kids a cp w hs h hW
def Bk.abF : Fo := .cons 1 ⟨#[97]⟩ 0 .nil (.cons 2 ⟨#[]⟩ 0 .nil (.cons 1 ⟨#[98]⟩ 0 .nil .nil))
theorem lays_ab : Lays 7 0 ⟨#[]⟩ Bk.abF := by
  have e0 : ∃ m, Bk.Gd ⟨#[]⟩ m := ⟨0, .nil⟩
  have l0 : ∀ j, j < (⟨#[]⟩ : ByteArray).size → bt ⟨#[]⟩ j ≠ 10 := fun j hj => absurd hj (Nat.not_lt_zero j)
  have la : ∀ j, j < (⟨#[97]⟩ : ByteArray).size → bt ⟨#[97]⟩ j ≠ 10 := fun j hj => by
    have : (⟨#[97]⟩ : ByteArray).size = 1 := rfl
    obtain rfl : j = 0 := by omega
    decide
  have lb : ∀ j, j < (⟨#[98]⟩ : ByteArray).size → bt ⟨#[98]⟩ j ≠ 10 := fun j hj => by
    have : (⟨#[98]⟩ : ByteArray).size = 1 := rfl
    obtain rfl : j = 0 := by omega
    decide
  refine ⟨⟨e0, l0, by decide, fun h => absurd h (by decide), by decide, ⟨⟨1, Bk.gd_one 97 (by decide)⟩, la, by decide, fun _ => rfl, by decide, trivial, e0, l0, by decide, fun _ => rfl, by decide, trivial, ⟨1, Bk.gd_one 98 (by decide)⟩, lb, by decide, fun _ => rfl, by decide, trivial, trivial⟩, trivial⟩, ?_, by decide, by decide, by decide +kernel⟩
  exact ⟨by decide, trivial, by decide, trivial, by decide, trivial, trivial⟩
theorem lays_hard : Lays 4 0 ⟨#[]⟩ .nil := by
  refine ⟨⟨⟨0, .nil⟩, fun j hj => absurd hj (Nat.not_lt_zero j), by decide, fun _ => rfl, by decide, trivial, trivial⟩, trivial, by decide, by decide, by decide +kernel⟩
set_option maxRecDepth 100000 in
set_option maxHeartbeats 4000000 in
theorem awake_any (w : World) : Calls Try.prog 9 #[] w fun e w' => e = .returned (.bool true) ∧ Below w.heap.size w w' := by
  obtain ⟨wA, hwA⟩ : ∃ wA, wA = (w.alloc (.cells #[.int .i64 1, .string ⟨#[97]⟩, .int .i64 0, .slice none 0 0, .int .i64 2, .string ⟨#[]⟩, .int .i64 0, .slice none 0 0, .int .i64 1, .string ⟨#[98]⟩, .int .i64 0, .slice none 0 0] 26)).alloc (.cells #[.int .i64 7, .string ⟨#[]⟩, .int .i64 0, .slice (some ⟨w.heap.size, 0, none⟩) 3 3] 26) := ⟨_, rfl⟩
  have hb : Below w.heap.size w wA := by rw [hwA]; exact ((Below.refl _ _).alloc (Nat.le_refl _) _).alloc (by simp) _
  have hrow : wA.heap[w.heap.size]? = some (.cells #[.int .i64 1, .string ⟨#[97]⟩, .int .i64 0, .slice none 0 0, .int .i64 2, .string ⟨#[]⟩, .int .i64 0, .slice none 0 0, .int .i64 1, .string ⟨#[98]⟩, .int .i64 0, .slice none 0 0] 26 (0, 0)) := by
    rw [hwA, Below.heap_alloc _ _ _ (by simp)]; exact heap_alloc_new w _
  have hbox : wA.heap[w.heap.size + 1]? = some (.cells #[.int .i64 7, .string ⟨#[]⟩, .int .i64 0, .slice (some ⟨w.heap.size, 0, none⟩) 3 3] 26 (0, 0)) := by
    have h1 : (w.alloc (.cells #[.int .i64 1, .string ⟨#[97]⟩, .int .i64 0, .slice none 0 0, .int .i64 2, .string ⟨#[]⟩, .int .i64 0, .slice none 0 0, .int .i64 1, .string ⟨#[98]⟩, .int .i64 0, .slice none 0 0] 26)).heap.size = w.heap.size + 1 := by simp
    rw [hwA, ← h1]; exact heap_alloc_new _ _
  have hsz : wA.heap.size = w.heap.size + 2 := by rw [hwA]; simp
  have HS : Hid (∀ w', Below wA.heap.size wA w' → SlAt w' (fun _ => True) (some ⟨w.heap.size, 0, none⟩) Bk.abF) := Lib.hid (fun w' hb' => SlAt.below (.inr ⟨w.heap.size, 0, rfl, by omega, trivial, by
    refine ⟨?_, ?_, ?_, ⟨none, 0, ?_, .inl rfl⟩, ?_, ?_, ?_, ⟨none, 0, ?_, .inl rfl⟩, ?_, ?_, ?_, ⟨none, 0, ?_, .inl rfl⟩, trivial⟩
    all_goals (rw [Lib.cell_of_heap hrow]; rfl)⟩) hb')
  have HX : Hid (∀ w', Below wA.heap.size wA w' → w'.cell? ⟨w.heap.size + 1, 0, none⟩ = some (.int .i64 7) ∧ w'.cell? ⟨w.heap.size + 1, 1, none⟩ = some (.string ⟨#[]⟩) ∧ w'.cell? ⟨w.heap.size + 1, 2, none⟩ = some (.int .i64 0) ∧ w'.cell? ⟨w.heap.size + 1, 3, none⟩ = some (.slice (some ⟨w.heap.size, 0, none⟩) 3 3)) := Lib.hid (fun w' hb' => by
    have h := (hb'.block (w.heap.size + 1) (by omega)).trans hbox
    exact ⟨by rw [Lib.cell_of_heap h]; rfl, by rw [Lib.cell_of_heap h]; rfl, by rw [Lib.cell_of_heap h]; rfl, by rw [Lib.cell_of_heap h]; rfl⟩)
  have HB := Lib.hid hb
  have HWA := Lib.hid hwA
  have HSZ := Lib.hid hsz
  have s3 : Bk.showN (max 3 0) 7 ⟨#[]⟩ 0 Bk.abF = ⟨#[97, 32, 98]⟩ := by decide +kernel
  have s2 : Bk.showN (max 2 0) 7 ⟨#[]⟩ 0 Bk.abF = ⟨#[97, 10, 98]⟩ := by decide +kernel
  have n3 : Bk.nodeW 7 ⟨#[]⟩ Bk.abF = some 3 := by decide +kernel
  have n0 : Bk.nodeW 4 ⟨#[]⟩ .nil = none := by decide +kernel
  have HS3 := Lib.hid s3
  have HS2 := Lib.hid s2
  have HN3 := Lib.hid n3
  have HN0 := Lib.hid n0
  clear hwA hb hrow hbox hsz s3 s2 n3 n0
  obtain ⟨x0, x1, x2, x3⟩ := HX.out wA (Below.refl _ _)
  go_enter Try.func9, Try.ntmps9
  go_wp2_with fail
  rw [← HWA.out]
  refine (wide_at 7 0 ⟨#[]⟩ Bk.abF _ 3 3 (some 3) wA rfl HN3.out (HS.out _ (Below.refl _ _)) lays_ab).mono ?_
  rintro e w1 ⟨rfl, hg⟩
  have HG1 := Lib.hid (hg)
  clear hg x0 x1 x2 x3
  obtain ⟨x0, x1, x2, x3⟩ := HX.out w1 HG1.out
  go_wp2_with fail
  refine (wide_at 4 0 ⟨#[]⟩ .nil none 0 0 none w1 rfl HN0.out (.inl rfl) lays_hard).mono ?_
  rintro e w2 ⟨rfl, hg⟩
  have HG2 := Lib.hid (HG1.out.trans (hg.mono (Below.size HG1.out)))
  clear hg x0 x1 x2 x3
  obtain ⟨x0, x1, x2, x3⟩ := HX.out w2 HG2.out
  go_wp2_with fail
  refine (show_at 3 7 0 ⟨#[]⟩ Bk.abF _ 3 3 _ w2 rfl HS3.out (HS.out _ HG2.out) lays_ab (by decide)).mono ?_
  rintro e w3 ⟨rfl, hg⟩
  have HG3 := Lib.hid (HG2.out.trans (hg.mono (Below.size HG2.out)))
  clear hg x0 x1 x2 x3
  obtain ⟨x0, x1, x2, x3⟩ := HX.out w3 HG3.out
  go_wp2_with fail
  refine (show_at 2 7 0 ⟨#[]⟩ Bk.abF _ 3 3 _ w3 rfl HS2.out (HS.out _ HG3.out) lays_ab (by decide)).mono ?_
  rintro e w4 ⟨rfl, hg⟩
  have HG4 := Lib.hid (HG3.out.trans (hg.mono (Below.size HG3.out)))
  clear hg x0 x1 x2 x3
  obtain ⟨x0, x1, x2, x3⟩ := HX.out w4 HG4.out
  go_wp2_with fail
  go_ret
  exact ⟨rfl, HB.out.trans (HG4.out.mono (by have := HB.out.size; omega))⟩
end Go.Proofs.Ythkpoiideiimaaa
