/- The teller of package layo: String, text, feed: contracts. -/
import Derived.Test.YthkpoiideiimaaaTel1
namespace Go.Proofs.Ythkpoiideiimaaa
open Go Go.RowKit Go.PlainAid
set_option linter.unusedVariables false
open Bk (Fo)
theorem strCells_byte (t : ByteArray) : Lib.strCells t = Lib.byteCells t.data.toList := rfl
set_option maxRecDepth 100000 in
set_option maxHeartbeats 2000000 in
theorem str_tel (p v : Value) (N b : Nat) (W col : Int) (bg : Bool) (t : ByteArray) (w : World) (h : TlP p v N b W col bg t w) :
    Calls Try.prog 25 #[.pointer (some ⟨b, 0, none⟩)] w fun e w' => e = .returned (.string t) ∧ Below N w w' := by
  obtain ⟨hb, hN, hbk, hown⟩ := h
  have hlt : b < w.heap.size := by omega
  by_cases ht : t.size = 0
  · have ht' : t = ⟨#[]⟩ := by
      apply ByteArray.ext
      apply Array.eq_empty_of_size_eq_zero
      exact ht
    subst ht'
    have hUS : ∀ (W : World) (q : Option Addr), (Builtin.unsafeString_ #[79, 3] 9 #[.pointer q, .int .i64 0]).run Try.prog W = .ok (.string .empty) W := fun W q => Lib.run_unsafeString_none W _ _ _ q
    rcases hown.2 with ⟨rfl, _⟩ | ⟨g, cap, cur, rfl, hbg, hg, _, _, _, _⟩
    · have c1 : w.drew.cell? ⟨b, 1, none⟩ = some (.slice none 0 0) := by
        have : w.drew.heap[b]? = _ := hbk
        rw [Lib.cell_of_heap this]; rfl
      have hSD : (Builtin.unsafeSliceData_ #[50] 79 #[.slice none 0 0]).run Try.prog w.drew = .ok (.pointer none) w.drew := rfl
      clear hown hbk
      go_enter Try.func25, Try.ntmps25
      go_wp2
      go_region
      all_goals (go_wp2; go_ret; exact ⟨rfl, Below.drew (Below.refl N w)⟩)
    · by_cases hc0 : cap = 0
      · subst hc0
        have c1 : w.drew.cell? ⟨b, 1, none⟩ = some (.slice (some ⟨g, 0, none⟩) 0 0) := by
          have : w.drew.heap[b]? = _ := hbk
          rw [Lib.cell_of_heap this]; rfl
        have hSD : (Builtin.unsafeSliceData_ #[50] 79 #[.slice (some ⟨g, 0, none⟩) 0 0]).run Try.prog w.drew = .ok (.pointer (some ⟨w.drew.heap.size, 0, none⟩)) (w.drew.alloc (.view ⟨g, 0, none⟩ 5)) :=
          Lib.run_unsafeSliceData_zero w.drew _ _ 5 Try.underlying79 ⟨g, 0, none⟩ 0 (5, cur.size) (by have hg' : w.drew.heap[g]? = some (.cells cur 5 (0, 0)) := hg; simp [World.shape?, hg'])
        have c2 : (w.drew.alloc (.view ⟨g, 0, none⟩ 5)).cell? ⟨b, 1, none⟩ = some (.slice (some ⟨g, 0, none⟩) 0 0) := by
          have : (w.drew.alloc (.view ⟨g, 0, none⟩ 5)).heap[b]? = _ := (Lib.alloc_old w.drew _ b hlt).trans hbk
          rw [Lib.cell_of_heap this]; rfl
        have c3 : (w.alloc (.view ⟨g, 0, none⟩ 5)).drew.cell? ⟨b, 1, none⟩ = some (.slice (some ⟨g, 0, none⟩) 0 0) := c2
        have c0 : w.cell? ⟨b, 1, none⟩ = some (.slice (some ⟨g, 0, none⟩) 0 0) := c1
        clear hown hbk hg
        go_enter Try.func25, Try.ntmps25
        go_wp2
        go_region
        all_goals (go_wp2; go_ret; exact ⟨rfl, (Below.drew (Below.refl N w)).alloc hN _⟩)
      · have c1 : w.drew.cell? ⟨b, 1, none⟩ = some (.slice (some ⟨g, 0, none⟩) 0 cap) := by
          have : w.drew.heap[b]? = _ := hbk
          rw [Lib.cell_of_heap this]; rfl
        have hSD : (Builtin.unsafeSliceData_ #[50] 79 #[.slice (some ⟨g, 0, none⟩) 0 cap]).run Try.prog w.drew = .ok (.pointer (some ⟨g, 0, none⟩)) w.drew :=
          Lib.run_unsafeSliceData_row _ _ _ _ _ _ hc0
        clear hc0 hown hbk hg
        go_enter Try.func25, Try.ntmps25
        go_wp2
        go_region
        all_goals (go_wp2; go_ret; exact ⟨rfl, Below.drew (Below.refl N w)⟩)
  · obtain ⟨g, cap, cur, rfl, hbg, hg, hnc, hcm, hcs, htake⟩ : ∃ g cap cur, v = .slice (some ⟨g, 0, none⟩) t.size cap ∧ N ≤ g ∧ w.heap[g]? = some (.cells cur 5 (0, 0)) ∧ t.size ≤ cap ∧ cap ≤ maxLen ∧ cur.size = cap * 1 ∧ cur.toList.take (t.size * 1) = Lib.strCells t := by
      rcases hown.2 with ⟨_, hz⟩ | ⟨g, cap, cur, hv, r⟩
      · exact absurd hz ht
      · exact ⟨g, cap, cur, hv, r⟩
    have hl : t.data.toList.length = t.size := by rw [Array.length_toList]; rfl
    have hl0 : t.data.toList ≠ [] := fun e => ht (by rw [← hl, e]; rfl)
    have c1 : w.drew.cell? ⟨b, 1, none⟩ = some (.slice (some ⟨g, 0, none⟩) t.size cap) := by
      have : w.drew.heap[b]? = _ := hbk
      rw [Lib.cell_of_heap this]; rfl
    have hSD : (Builtin.unsafeSliceData_ #[50] 79 #[.slice (some ⟨g, 0, none⟩) t.size cap]).run Try.prog w.drew = .ok (.pointer (some ⟨g, 0, none⟩)) w.drew :=
      Lib.run_unsafeSliceData_row _ _ _ _ _ _ (by omega)
    have hUS : (Builtin.unsafeString_ #[79, 3] 9 #[.pointer (some ⟨g, 0, none⟩), .int .i64 t.size]).run Try.prog w.drew = .ok (.string t) (w.drew.freeze ⟨g, 0, none⟩ t.size) := by
      have := Lib.run_unsafeString_row (P := Try.prog) w.drew 79 3 9 5 Try.underlying79 (by kernel_rfl) g cur.size (by have hg' : w.drew.heap[g]? = some (.cells cur 5 (0, 0)) := hg; simp [World.shape?, hg']) t.data.toList hl0 (by omega) (by unfold maxLen at hcm; omega) (by
        intro j x hx
        have := hown.cells (g := g) rfl j (.int .u8 x.toNat) (by rw [strCells_byte]; simp [Lib.byteCells, hx])
        exact this)
      rw [hl, Lib.mk_data] at this
      exact this
    clear hown hbk hg htake hcs hl hl0
    go_enter Try.func25, Try.ntmps25
    go_wp2
    go_region
    all_goals (go_wp2; go_ret; exact ⟨rfl, Lib.below_freeze (Below.drew (Below.refl N w)) (p := ⟨g, 0, none⟩) hbg _⟩)
end Go.Proofs.Ythkpoiideiimaaa
