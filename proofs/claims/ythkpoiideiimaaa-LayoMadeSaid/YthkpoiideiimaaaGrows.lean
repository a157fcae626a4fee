/- The law LayoGrows of chapter 25: its walk. -/
import Derived.Test.YthkpoiideiimaaaAwk
import Derived.Test.YthkpoiideiimaaaMak8
import Derived.Deep.RegionHeld3
namespace Go.Proofs.Ythkpoiideiimaaa
open Go Go.RowKit Go.PlainAid
set_option linter.unusedVariables false
open Bk (Fo)
def IntsAt (w : World) (a : Option Addr) (len : Nat) (zs : List Int) : Prop :=
  len ≤ maxLen ∧ (len = 0 ∨ ∃ b off, a = some ⟨b, off, none⟩ ∧ b < w.heap.size ∧ ∀ j, j < len → w.cell? ⟨b, off + j, none⟩ = some (.int .i64 (zs.getD j 0)))
theorem intsAt_of {w : World} {a : Option Addr} {len cap : Nat} {zs : List Int} (h : (a = none ∧ len = 0 ∧ cap = 0 ∧ zs = []) ∨ ∃ x, a = some x ∧ len ≤ cap ∧ cap ≤ maxLen ∧ zs.length = cap ∧ (∀ i, i < zs.length → w.cell? (x.add i) = some (.int .i64 (zs.getD i 0))) ∧ ∀ n ∈ zs, (Lit.int .i64 n).wf = true) : IntsAt w a len zs := by
  rcases h with ⟨_, h0, _, _⟩ | ⟨x, rfl, hl, hm, hz, hc, _⟩
  · exact ⟨by unfold maxLen; omega, .inl h0⟩
  · refine ⟨by omega, ?_⟩
    by_cases h0 : len = 0
    · exact .inl h0
    · obtain ⟨b, off, spot⟩ := x
      have hc0 := hc 0 (by omega)
      have hspot : spot = none := by simpa [Addr.add] using World.cell?_spot hc0
      subst hspot
      refine .inr ⟨b, off, rfl, World.block_lt_of_cell? w _ hc0, fun j hj => ?_⟩
      have := hc j (by omega)
      by_cases e : j = 0
      · subst e; simpa [Addr.add] using this
      · simpa [Addr.add, e] using this
theorem made_lays {len : Nat} {F : Fo} (h : Bk.MadeF len F) (hl : len ≤ 60) (k : Int) (hk : 5 ≤ k ∧ k ≤ 7) : Lays k 0 ByteArray.empty F := by
  have h1 := h.flen
  have h2 := h.cost
  have h3 := h.nst
  have e0 : (Bk.clampN 0).toNat = 0 := by decide
  have e1 : ByteArray.empty.size = 0 := rfl
  exact ⟨⟨⟨0, .nil⟩, fun j hj => absurd hj (Nat.not_lt_zero j), ⟨by omega, by omega⟩, fun h => by omega, by omega, h.good, trivial⟩, h.short, by omega, by omega, by omega⟩
theorem show_size {W k n : Int} {t : ByteArray} {F : Fo} (h : Lays k n t F) : (Bk.showN W k t n F).size ≤ 99000000 := by
  have h1 := h.nest
  have h2 := h.cost
  have := (Bk.node_ok W (k := k) (n := n) (t := t) (kids := F) (nest := 0) (fl := false) (st := Bk.st0) ⟨Int.le_refl 0, Int.le_refl 0⟩ (Int.le_refl 0) (by omega)).2
  have e : Bk.st0.out.size = 0 := rfl
  unfold Bk.showN
  omega
/-- The cells of a layout in a block of its own. -/
def LBox (w : World) (b : Nat) (k : Int) (t : ByteArray) (n : Int) (v : Value) : Prop :=
  b < w.heap.size ∧ w.cell? ⟨b, 0, none⟩ = some (.int .i64 k) ∧ w.cell? ⟨b, 1, none⟩ = some (.string t) ∧ w.cell? ⟨b, 2, none⟩ = some (.int .i64 n) ∧ w.cell? ⟨b, 3, none⟩ = some v
theorem LBox.below {w w' : World} {b : Nat} {k n : Int} {t : ByteArray} {v : Value} (h : LBox w b k t n v) (hb : Below w.heap.size w w') : LBox w' b k t n v := by
  obtain ⟨hl, h0, h1, h2, h3⟩ := h
  exact ⟨Nat.lt_of_lt_of_le hl hb.size, (hb.cell (p := ⟨b, 0, none⟩) hl).trans h0, (hb.cell (p := ⟨b, 1, none⟩) hl).trans h1, (hb.cell (p := ⟨b, 2, none⟩) hl).trans h2, (hb.cell (p := ⟨b, 3, none⟩) hl).trans h3⟩
theorem lbox_new (w : World) (k : Int) (t : ByteArray) (n : Int) (v : Value) : LBox (w.alloc (.cells #[.int .i64 k, .string t, .int .i64 n, v] 26)) w.heap.size k t n v := by
  have h := heap_alloc_new w (.cells #[.int .i64 k, .string t, .int .i64 n, v] 26)
  refine ⟨by simp, ?_, ?_, ?_, ?_⟩
  all_goals (rw [Lib.cell_of_heap h]; rfl)
set_option maxRecDepth 100000 in
set_option maxHeartbeats 8000000 in
theorem grows_walk (a0 : Option Addr) (len cap : Nat) (z : List Int) (a1 a2 : Int) (w : World) (h0 : IntsAt w a0 len z) :
    Calls Try.prog 6 #[.slice a0 len cap, .int .i64 a1, .int .i64 a2] w fun e w' => e = .returned (.bool true) ∧ Below w.heap.size w w' := by
  obtain ⟨hml, h0⟩ := h0
  unfold maxLen at hml
  have H0 := Lib.hid h0
  clear h0
  by_cases hl : len ≤ 40
  · have hwl := Bk.lowN_lt (x := a1) (n := 50) (by omega)
    have hml2 := Bk.lowN_lt (x := a2) (n := 1000) (by omega)
    obtain ⟨W, hW⟩ : ∃ W, W = Bk.lowN a1 50 := ⟨_, rfl⟩
    obtain ⟨M, hM⟩ : ∃ M, M = Bk.lowN a2 1000 := ⟨_, rfl⟩
    rw [← hW] at hwl
    rw [← hM] at hml2
    have HW := Lib.hid hW
    have HM := Lib.hid hM
    clear hW hM
    go_enter Try.func6, Try.ntmps6
    go_wp2_with fail
    refine (made_any a0 len cap z true w (by omega) H0.out).mono ?_
    rintro e w1 ⟨F, a, cp, rfl, hs1, hF, hg1⟩
    have HL := Lib.hid (made_lays hF (by omega) 5 (by omega))
    obtain ⟨L, hL⟩ : ∃ L, F.len = L := ⟨_, rfl⟩
    rw [hL]
    have HLN := Lib.hid hL
    have HS1 := Lib.hid (hs1.weak (ok' := fun _ => True) (fun _ _ _ => trivial))
    have HG1 := Lib.hid hg1
    have HB1 := Lib.hid (lbox_new w1 5 ByteArray.empty 0 (.slice a L cp))
    have HA1 := Lib.hid ((Below.refl w1.heap.size w1).alloc (Nat.le_refl _) (.cells #[.int .i64 5, .string ByteArray.empty, .int .i64 0, .slice a L cp] 26))
    have HGA := Lib.hid (hg1.trans (HA1.out.mono hg1.size))
    clear hs1 hF hg1 hL
    obtain ⟨s, hs⟩ : ∃ s, Bk.showN (max (W : Int) 0) 5 ByteArray.empty 0 F = s := ⟨_, rfl⟩
    have hsz : s.size ≤ 99000000 := by rw [← hs]; exact show_size HL.out
    have HSS := Lib.hid hs
    clear hs
    go_wp2_with (go_at_call 11; refine (low_any a1 50 _ (by omega) (by omega)).mono ?_; rintro e w' ⟨rfl, rfl⟩; rw [← HW.out])
    refine (show_at W 5 0 ByteArray.empty F a cp L s _ HLN.out HSS.out (HS1.out.below HA1.out) HL.out (by omega)).mono ?_
    rintro e w2 ⟨rfl, hg2⟩
    have HG2 := Lib.hid (HGA.out.trans (hg2.mono HGA.out.size))
    have HB2 := Lib.hid (HB1.out.below hg2)
    have HS2 := Lib.hid (HS1.out.below (HA1.out.trans (hg2.mono HA1.out.size)))
    clear hg2
    by_cases hc : 0 < Bk.cntF s
    · go_wp2_with first
        | (go_at_call 18; refine (feeds18_any s _ (by omega)).mono ?_; rintro e w' ⟨rfl, rfl⟩)
        | (go_at_call 9; refine (awake_any _).mono ?_; rintro e w3 ⟨rfl, hg3⟩; have HG3 := Lib.hid (HG2.out.trans (hg3.mono HG2.out.size)); clear hg3)
      go_ret
      exact ⟨rfl, HG3.out⟩
    · have HCN : Hid (Bk.cntF s = 0) := Lib.hid (by omega)
      have HSW : Hid (Bk.showN (max ((W : Int) + (M : Int)) 0) 5 ByteArray.empty 0 F = s) := Lib.hid (by
        have h0 := HSS.out
        rw [show max (W : Int) 0 = W from by omega] at h0
        rw [show max ((W : Int) + (M : Int)) 0 = W + M from by omega]
        have hcz : Bk.cntF (Bk.tellF W (.cons 5 ByteArray.empty 0 F .nil) 0 false Bk.st0).out = Bk.cntF Bk.st0.out := by
          have e : (Bk.tellF W (.cons 5 ByteArray.empty 0 F .nil) 0 false Bk.st0).out = s := by rw [Bk.tell_cons]; exact h0
          rw [e, HCN.out]; rfl
        have := Bk.tell_grow (W := W) (W' := W + M) (by omega) (.cons 5 ByteArray.empty 0 F .nil) 0 false false Bk.st0 (fun h => h) hcz
        rw [Bk.tell_cons, Bk.tell_cons] at this
        have e2 := congrArg Bk.St.out this
        exact e2.trans h0)
      have hcn : ¬ 0 < Bk.cntF s := hc
      have hwr : IntKind.i64.wrap ((W : Int) + (M : Int)) = (W : Int) + (M : Int) := IntWalk.i64_in _ (by omega)
      obtain ⟨hblt, b0, b1, b2, b3⟩ := HB2.out
      have HBL := Lib.hid hblt
      have C0 := Lib.hid b0
      have C1 := Lib.hid b1
      have C2 := Lib.hid b2
      have C3 := Lib.hid b3
      clear hblt hc
      go_wp2_with (go_at_call 18; refine (feeds18_any s _ (by omega)).mono ?_; rintro e w' ⟨rfl, rfl⟩)
      go_region_held3 (fun x => x.cell? ⟨w1.heap.size, 0, none⟩ = some (.int .i64 5) ∧ x.cell? ⟨w1.heap.size, 1, none⟩ = some (.string ByteArray.empty) ∧ x.cell? ⟨w1.heap.size, 2, none⟩ = some (.int .i64 0) ∧ x.cell? ⟨w1.heap.size, 3, none⟩ = some (.slice a L cp) ∧ Hid (Below w2.heap.size w2 x))
        (first
          | exact ⟨C0.out, C1.out, C2.out, C3.out, Lib.hid (Below.drew (Below.refl _ w2))⟩
          | (go_split_ands; exact ⟨(KK.out.cell (p := ⟨w1.heap.size, 0, none⟩) HBL.out).trans C0.out, (KK.out.cell (p := ⟨w1.heap.size, 1, none⟩) HBL.out).trans C1.out, (KK.out.cell (p := ⟨w1.heap.size, 2, none⟩) HBL.out).trans C2.out, (KK.out.cell (p := ⟨w1.heap.size, 3, none⟩) HBL.out).trans C3.out, KK⟩)
          | go_keep)
        (first
          | (go_at_call 11; refine (low_any a2 1000 _ (by omega) (by omega)).mono ?_; rintro e w' ⟨rfl, rfl⟩; rw [← HM.out])
          | (go_at_call 14; go_split_ands; refine (show_at ((W : Int) + (M : Int)) 5 0 ByteArray.empty F a cp L s _ HLN.out HSW.out (HS2.out.below (‹Hid (Below w2.heap.size w2 _)›).out) HL.out (by omega)).mono ?_; rintro e w5 ⟨rfl, hg5⟩; have KK : Hid (Below w2.heap.size w2 w5) := Lib.hid (Below.trans (show Below w2.heap.size w2 _ from (‹Hid (Below w2.heap.size w2 _)›).out) (hg5.mono (Below.size (‹Hid (Below w2.heap.size w2 _)›).out))); clear hg5)
          | (go_at_call 9; go_split_ands; refine (awake_any _).mono ?_; rintro e w6 ⟨rfl, hg6⟩; replace KK : Hid (Below w2.heap.size w2 w6) := Lib.hid (Below.trans (show Below w2.heap.size w2 _ from (‹Hid (Below w2.heap.size w2 _)›).out) (hg6.mono (Below.size (‹Hid (Below w2.heap.size w2 _)›).out))); clear hg6))
      go_wp2_with fail
      go_ret
      exact ⟨rfl, HG2.out.trans (Below.mono (show Below w2.heap.size w2 _ from (‹Hid (Below w2.heap.size w2 _)›).out) HG2.out.size)⟩
  · go_enter Try.func6, Try.ntmps6
    go_wp2_with (go_at_call 9; refine (awake_any _).mono ?_; rintro e w3 ⟨rfl, hg3⟩; have HG3 := Lib.hid hg3; clear hg3)
    go_ret
    exact ⟨rfl, HG3.out⟩
end Go.Proofs.Ythkpoiideiimaaa
