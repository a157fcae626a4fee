/- The maker: pick: contract. -/
import Derived.Test.YthkpoiideiimaaaLay8
import Derived.Deep.QuietTactic
import Derived.Lib.Builder
namespace Go.Proofs.Ythkpoiideiimaaa
open Go Go.RowKit Go.PlainAid
set_option linter.unusedVariables false
open Bk (Fo)
/-- The next number: what it is, how many are behind it. -/
def Bk.pickS (z : List Int) (len : Nat) (n : Int) (p : Nat) : Nat × Nat := if p < len then (Bk.lowN (z.getD p 0) n, p + 1) else (0, p)
theorem Bk.pick_lt {z : List Int} {len : Nat} {n : Int} {p : Nat} (h : 1 ≤ n) : ((Bk.pickS z len n p).1 : Int) < n := by
  unfold Bk.pickS
  split
  · exact Bk.lowN_lt (by omega)
  · show (0 : Int) < n; omega
theorem Bk.pick_le {z : List Int} {len : Nat} {n : Int} {p : Nat} (h : p ≤ len) : p ≤ (Bk.pickS z len n p).2 ∧ (Bk.pickS z len n p).2 ≤ len ∧ (Bk.pickS z len n p).2 ≤ p + 1 := by
  unfold Bk.pickS
  split
  · exact ⟨Nat.le_succ p, by show p + 1 ≤ len; omega, Nat.le_refl _⟩
  · exact ⟨Nat.le_refl _, h, Nat.le_succ p⟩
/-- The maker's block: the numbers, how many were taken. -/
structure Mk (mb : Nat) (a : Option Addr) (len cap : Nat) (z : List Int) (p : Nat) (w : World) : Prop where
  blk : w.heap[mb]? = some (.cells #[.slice a len cap, .int .i64 p] 41 (0, 0))
  ints : len = 0 ∨ ∃ b off, a = some ⟨b, off, none⟩ ∧ b < mb ∧ ∀ j, j < len → w.cell? ⟨b, off + j, none⟩ = some (.int .i64 (z.getD j 0))
theorem blk_lt {w : World} {i : Nat} {x : Obj} (h : w.heap[i]? = some x) : i < w.heap.size := by
  rcases Nat.lt_or_ge i w.heap.size with h' | h'
  · exact h'
  · simp [Array.getElem?_eq_none h'] at h
/-- Nothing is turned but one block. -/
structure MStay (mb : Nat) (w w' : World) : Prop where
  below : Below mb w w'
  blk : ∀ i, i < w.heap.size → i ≠ mb → w'.heap[i]? = w.heap[i]?
theorem MStay.refl (mb : Nat) (w : World) : MStay mb w w := ⟨Below.refl _ _, fun _ _ _ => rfl⟩
theorem MStay.trans {mb : Nat} {w w1 w2 : World} (h : MStay mb w w1) (k : MStay mb w1 w2) : MStay mb w w2 :=
  ⟨h.below.trans k.below, fun i hi hn => (k.blk i (Nat.lt_of_lt_of_le hi h.below.size) hn).trans (h.blk i hi hn)⟩
theorem MStay.of_below {mb : Nat} {w w' : World} (h : Below w.heap.size w w') (hm : mb < w.heap.size) : MStay mb w w' := ⟨h.mono (by omega), fun i hi _ => h.block i hi⟩
theorem MStay.setCell {mb : Nat} (w : World) (o : Nat) (u : Value) : MStay mb w (w.setCell ⟨mb, o, none⟩ u) :=
  ⟨(Below.refl mb w).setCell (p := ⟨mb, o, none⟩) (Nat.le_refl _) u, fun i _ hn => Below.heap_setCell _ _ _ _ hn⟩
theorem Mk.lt {mb : Nat} {a : Option Addr} {len cap : Nat} {z : List Int} {p : Nat} {w : World} (h : Mk mb a len cap z p w) : mb < w.heap.size := blk_lt h.blk
theorem Mk.below {mb : Nat} {a : Option Addr} {len cap : Nat} {z : List Int} {p : Nat} {w w' : World} (h : Mk mb a len cap z p w) (k : Below w.heap.size w w') : Mk mb a len cap z p w' := by
  have hl := h.lt
  refine ⟨(k.block mb hl).trans h.blk, ?_⟩
  rcases h.ints with h0 | ⟨b, off, rfl, hb, hc⟩
  · exact .inl h0
  · exact .inr ⟨b, off, rfl, hb, fun j hj => (k.cell (p := ⟨b, off + j, none⟩) (by show b < _; omega)).trans (hc j hj)⟩
theorem Mk.set {mb : Nat} {a : Option Addr} {len cap : Nat} {z : List Int} {p : Nat} {w : World} (h : Mk mb a len cap z p w) (q : Nat) : Mk mb a len cap z q (w.setCell ⟨mb, 1, none⟩ (.int .i64 q)) := by
  refine ⟨?_, ?_⟩
  · simp [World.setCell, Array.getElem?_modify, h.blk]
  · rcases h.ints with h0 | ⟨b, off, rfl, hb, hc⟩
    · exact .inl h0
    · exact .inr ⟨b, off, rfl, hb, fun j hj => (World.cell?_of_block (Below.heap_setCell _ _ _ _ (by show b ≠ mb; omega))).trans (hc j hj)⟩
theorem Mk.cells {mb : Nat} {a : Option Addr} {len cap : Nat} {z : List Int} {p : Nat} {w : World} (h : Mk mb a len cap z p w) :
    w.cell? ⟨mb, 0, none⟩ = some (.slice a len cap) ∧ w.cell? ⟨mb, 1, none⟩ = some (.int .i64 p) ∧ w.frozen? ⟨mb, 1, none⟩ = false :=
  ⟨by rw [Lib.cell_of_heap h.blk]; rfl, by rw [Lib.cell_of_heap h.blk]; rfl, Lib.frozen_of_heap h.blk 1⟩
/-- What pick leaves. -/
def PickPost (mb : Nat) (a : Option Addr) (len cap : Nat) (z : List Int) (n : Int) (p : Nat) (w : World) (e : Ending) (w' : World) : Prop :=
  e = .returned (.int .i64 ((Bk.pickS z len n p).1 : Nat)) ∧ Mk mb a len cap z (Bk.pickS z len n p).2 w' ∧ MStay mb w w'
theorem below_drewN (w : World) (n : Nat) : Below w.heap.size w (w.drewN n) := ⟨rfl, rfl, rfl, Nat.le_refl _, fun _ _ => rfl⟩
theorem low_same (x n : Int) (w : World) (hn : 1 ≤ n) (hn' : n ≤ 1000000000) :
    Calls Try.prog 11 #[.int .i64 x, .int .i64 n] w fun e w' => e = .returned (.int .i64 (Bk.lowN x n : Nat)) ∧ w' = w := (low_any x n w hn hn').mono fun _ _ h => ⟨h.1, h.2.symm⟩
set_option maxRecDepth 100000 in
set_option maxHeartbeats 2000000 in
theorem pick_any (mb : Nat) (a : Option Addr) (len cap : Nat) (z : List Int) (n : Int) (p : Nat) (w : World) (hn : 1 ≤ n) (hn' : n ≤ 1000000000) (h : Mk mb a len cap z p w) (hp : p ≤ len) (hl : len ≤ 1000) :
    Calls Try.prog 27 #[.pointer (some ⟨mb, 0, none⟩), .int .i64 n] w (PickPost mb a len cap z n p w) := by
  obtain ⟨c0, c1, f1⟩ := h.cells
  have H := Lib.hid h
  by_cases hlt : p < len
  · have HP : Hid (Bk.pickS z len n p = (Bk.lowN (z.getD p 0) n, p + 1)) := Lib.hid (by unfold Bk.pickS; rw [if_pos hlt])
    rcases h.ints with h0 | ⟨b, off, rfl, hb, hc⟩
    · omega
    have hcp := hc p hlt
    obtain ⟨x, hx⟩ : ∃ x, x = z.getD p 0 := ⟨_, rfl⟩
    rw [← hx] at hcp HP
    have hbm : b ≠ mb := by omega
    have HHL := Lib.hid h.lt
    clear hc h hx
    have hd : decide (len ≤ p) = false := decide_eq_false (by omega)
    go_enter Try.func27, Try.ntmps27
    go_wp2_with fail
    go_quiet (fail)
    obtain ⟨w1, hw1⟩ : ∃ w1, w1 = w.drewN nq := ⟨_, rfl⟩
    rw [← hw1]
    have HB1 : Hid (Below w.heap.size w w1) := Lib.hid (by rw [hw1]; exact below_drewN w nq)
    have HM1 := Lib.hid (H.out.below HB1.out)
    clear c0 c1 f1
    obtain ⟨c0, c1, f1⟩ := HM1.out.cells
    have hcp1 : w1.cell? ⟨b, off + p, none⟩ = some (.int .i64 x) := by rw [hw1]; exact hcp
    clear hw1 hcp
    go_wp2_with fail
    obtain ⟨w2, hw2⟩ : ∃ w2, w2 = w1.setCell ⟨mb, 1, none⟩ (.int .i64 ((p : Int) + 1)) := ⟨_, rfl⟩
    rw [← hw2]
    have HM2 : Hid (Mk mb (some ⟨b, off, none⟩) len cap z (p + 1) w2) := Lib.hid (by rw [hw2]; exact HM1.out.set (p + 1))
    have HS2 : Hid (MStay mb w w2) := Lib.hid (by rw [hw2]; exact (MStay.of_below HB1.out HHL.out).trans (MStay.setCell _ _ _))
    have hcp2 : w2.cell? ⟨b, off + p, none⟩ = some (.int .i64 x) := by
      rw [hw2]; exact (World.cell?_of_block (Below.heap_setCell _ _ _ _ hbm)).trans hcp1
    clear c0 c1 f1 hcp1 hw2
    obtain ⟨c0, c1, f1⟩ := HM2.out.cells
    have c1' : w2.cell? ⟨mb, 1, none⟩ = some (.int .i64 ((p : Int) + 1)) := c1
    clear c1 f1
    have hpi : (p : Int) < len := by omega
    have hwr : IntKind.i64.wrap (p : Int) = p := IntWalk.i64_in _ (by omega)
    go_quiet ((go_at_call 11; exact Calls.quiet_of_same (low_same _ _ _ hn hn')))
    go_wp2_with fail
    go_ret
    exact ⟨by rw [HP.out]; rfl, by rw [HP.out]; exact HM2.out.below (below_drewN w2 _), HS2.out.trans (MStay.of_below (below_drewN w2 _) HM2.out.lt)⟩
  · have HP : Hid (Bk.pickS z len n p = (0, p)) := Lib.hid (by unfold Bk.pickS; rw [if_neg hlt])
    have hd : decide (len ≤ p) = true := decide_eq_true (by omega)
    clear h
    go_enter Try.func27, Try.ntmps27
    go_wp2_with fail
    go_quiet (fail)
    go_wp2_with fail
    go_ret
    have hb := below_drewN w nq
    exact ⟨by rw [HP.out]; rfl, by rw [HP.out]; exact H.out.below hb, MStay.of_below hb H.out.lt⟩
end Go.Proofs.Ythkpoiideiimaaa
