/- The law LayoNest of chapter 25: its walk. -/
import Derived.Test.YthkpoiideiimaaaGrows
namespace Go.Proofs.Ythkpoiideiimaaa
open Go Go.RowKit Go.PlainAid
set_option linter.unusedVariables false
open Bk (Fo)
namespace Bk
theorem indN_size (s : ByteArray) (k : Nat) : ∀ i, i ≤ s.size → (indN s k i).size ≤ i * (k + 1)
  | 0, _ => by show 0 ≤ _; omega
  | i + 1, h => by
    have := indN_size s k i (by omega)
    have h2 := size_ext s i (i + 1) h
    rw [indN, size_app, h2, Nat.succ_mul]
    split
    · rw [size_app, manyS_size]; omega
    · omega
theorem ind_zero {s : ByteArray} {k : Nat} (h : bt s 0 ≠ 10) : indN s k 1 = manyS 32 k ++ s.extract 0 1 := by
  rw [indN, if_pos ⟨h, .inl rfl⟩, indN, ByteArray.empty_append]
theorem ind_lf {s : ByteArray} {k i : Nat} (h : bt s i = 10) : indN s k (i + 1) = indN s k i ++ s.extract i (i + 1) := by
  rw [indN, if_neg (fun hh => hh.1 h)]
theorem ind_new {s : ByteArray} {k i : Nat} (h : bt s (i + 1) ≠ 10) (h2 : bt s i = 10) : indN s k (i + 1 + 1) = indN s k (i + 1) ++ manyS 32 k ++ s.extract (i + 1) (i + 1 + 1) := by
  rw [indN, if_pos ⟨h, .inr (by rw [Nat.add_sub_cancel]; exact h2)⟩]
theorem ind_on {s : ByteArray} {k i : Nat} (h : bt s (i + 1) ≠ 10) (h2 : bt s i ≠ 10) : indN s k (i + 1 + 1) = indN s k (i + 1) ++ s.extract (i + 1) (i + 1 + 1) := by
  rw [indN, if_neg (fun hh => by rcases hh.2 with h3 | h3; omega; rw [Nat.add_sub_cancel] at h3; exact h2 h3)]
def wrapF (F : Fo) : Fo := .cons 5 ByteArray.empty 0 F .nil
end Bk
theorem wrap_lays {len : Nat} {F : Fo} (h : Bk.MadeF len F) (hl : len ≤ 60) {k : Nat} (hk : k ≤ 100) : Lays 6 k ⟨#[]⟩ (Bk.wrapF F) := by
  have h1 := h.flen
  have h2 := h.cost
  have h3 := h.nst
  have e0 : (Bk.clampN 0).toNat = 0 := by decide
  have e3 : (Bk.clampN (k : Int)).toNat = k := by rw [clamp_is (by omega) (by omega)]; omega
  have e1 : ByteArray.empty.size = 0 := rfl
  have e2 : (⟨#[]⟩ : ByteArray).size = 0 := rfl
  refine ⟨⟨⟨0, .nil⟩, fun j hj => absurd hj (Nat.not_lt_zero j), by decide, fun h => absurd h (by decide), ⟨by omega, by omega⟩, ?_, trivial⟩, ?_, by show 1 ≤ _; omega, ?_, ?_⟩
  · exact ⟨⟨0, .nil⟩, fun j hj => absurd hj (Nat.not_lt_zero j), by decide, fun h => absurd h (by decide), by decide, h.good, trivial⟩
  · exact ⟨by omega, h.short, trivial⟩
  · unfold Bk.wrapF; simp only [Bk.nstF]; omega
  · unfold Bk.wrapF; simp only [Bk.costF]; omega
theorem wrap_at {w : World} {F : Fo} {a : Option Addr} {L cp : Nat} (hL : F.len = L) (h : SlAt w (fun _ => True) a F) :
    SlAt (w.alloc (.cells #[.int .i64 5, .string ByteArray.empty, .int .i64 0, .slice a L cp] 26)) (fun _ => True) (some ⟨w.heap.size, 0, none⟩) (Bk.wrapF F) := by
  have hb := heap_alloc_new w (.cells #[.int .i64 5, .string ByteArray.empty, .int .i64 0, .slice a L cp] 26)
  subst hL
  refine .inr ⟨w.heap.size, 0, rfl, by simp, trivial, ?_, ?_, ?_, ⟨a, cp, ?_, h.below ((Below.refl _ _).alloc (Nat.le_refl _) _)⟩, trivial⟩
  all_goals (rw [Lib.cell_of_heap hb]; rfl)
set_option maxRecDepth 100000 in
set_option maxHeartbeats 8000000 in
theorem nest_walk (a0 : Option Addr) (len cap : Nat) (z : List Int) (a1 a2 : Int) (w : World) (h0 : IntsAt w a0 len z) :
    Calls Try.prog 7 #[.slice a0 len cap, .int .i64 a1, .int .i64 a2] w fun e w' => e = .returned (.bool true) ∧ Below w.heap.size w w' := by
  obtain ⟨hml, h0⟩ := h0
  unfold maxLen at hml
  have H0 := Lib.hid h0
  clear h0
  by_cases hl : len ≤ 40
  · have hwl := Bk.lowN_lt (x := a1) (n := 50) (by omega)
    have hkl := Bk.lowN_lt (x := a2) (n := 30) (by omega)
    obtain ⟨W, hW⟩ : ∃ W, W = Bk.lowN a1 50 := ⟨_, rfl⟩
    obtain ⟨k, hk⟩ : ∃ k, k = Bk.lowN a2 30 := ⟨_, rfl⟩
    rw [← hW] at hwl
    rw [← hk] at hkl
    have HW := Lib.hid hW
    have HK := Lib.hid hk
    clear hW hk
    go_enter Try.func7, Try.ntmps7
    go_wp2_with fail
    refine (made_any a0 len cap z true w (by omega) H0.out).mono ?_
    rintro e w1 ⟨F, a, cp, rfl, hs1, hF, hg1⟩
    have HL := Lib.hid (made_lays hF (by omega) 5 (by omega))
    have HL6 := Lib.hid (wrap_lays hF (by omega) (k := k) (by omega))
    obtain ⟨L, hL⟩ : ∃ L, F.len = L := ⟨_, rfl⟩
    rw [hL]
    have HLN := Lib.hid hL
    have HS1 := Lib.hid (hs1.weak (ok' := fun _ => True) (fun _ _ _ => trivial))
    have HG1 := Lib.hid hg1
    have HB1 := Lib.hid (lbox_new w1 5 ByteArray.empty 0 (.slice a L cp))
    have HA1 := Lib.hid ((Below.refl w1.heap.size w1).alloc (Nat.le_refl _) (.cells #[.int .i64 5, .string ByteArray.empty, .int .i64 0, .slice a L cp] 26))
    have HGA := Lib.hid (hg1.trans (HA1.out.mono hg1.size))
    have HGF := Lib.hid hF.good
    clear hs1 hF hg1 hL
    obtain ⟨s, hs⟩ : ∃ s, Bk.showN (max (W : Int) 0) 5 ByteArray.empty 0 F = s := ⟨_, rfl⟩
    have hsz : s.size ≤ 99000000 := by rw [← hs]; exact show_size HL.out
    have HSS := Lib.hid hs
    clear hs
    go_wp2_with (first
      | (go_at_call 11; (with_reducible refine (low_any a1 50 _ (by omega) (by omega)).mono ?_); rintro e w' ⟨rfl, rfl⟩; rw [← HW.out])
      | (go_at_call 11; (with_reducible refine (low_any a2 30 _ (by omega) (by omega)).mono ?_); rintro e w' ⟨rfl, rfl⟩; rw [← HK.out]))
    refine (show_at W 5 0 ByteArray.empty F a cp L s _ HLN.out HSS.out (HS1.out.below HA1.out) HL.out (by omega)).mono ?_
    rintro e w2 ⟨rfl, hg2⟩
    have HG2 := Lib.hid (HGA.out.trans (hg2.mono HGA.out.size))
    have HB2 := Lib.hid (HB1.out.below hg2)
    have HS2 := Lib.hid (HS1.out.below (HA1.out.trans (hg2.mono HA1.out.size)))
    clear hg2
    obtain ⟨hblt, b0, b1, b2, b3⟩ := HB2.out
    have HBL := Lib.hid hblt
    clear hblt
    have HSW : Hid (Bk.showN (max ((W : Int) + (k : Int)) 0) 6 ⟨#[]⟩ k (Bk.wrapF F) = Bk.indS s k) := Lib.hid (by
      have h0 := HSS.out
      rw [show max (W : Int) 0 = W from by omega] at h0
      rw [show max ((W : Int) + (k : Int)) 0 = (W : Int) + k from by omega, ← Bk.show_one]
      have := Bk.show_nest (W := W) (k := k) (F := Bk.wrapF F) (by omega) ⟨⟨0, .nil⟩, fun j hj => absurd hj (Nat.not_lt_zero j), by decide, fun h => absurd h (by decide), by decide, HGF.out, trivial⟩
      rw [← h0, ← Bk.show_one]; exact this)
    have hb := get_bt s
    go_wp2_with fail
    go_loop [11, 12] (fun t i => ∃ j : Nat, j ≤ s.size ∧ i = .int .i64 j ∧ t = .string (Bk.indN s k j)) (fun _ i => s.size - (intOf i).toNat)
    case atStart => exact ⟨0, by omega, rfl, rfl⟩
    case round =>
      obtain ⟨j, hj, rfl, rfl⟩ := hrel
      have hjz : (Bk.indN s k j).size ≤ 3100000000 := by
        have h1 := Bk.indN_size s k j hj
        have h2 : j * (k + 1) ≤ 99000000 * 31 := Nat.mul_le_mul (by omega) (by omega)
        omega
      have hxz := fun h : j + 1 ≤ s.size => Bk.size_ext s j (j + 1) h
      by_cases hjs : j < s.size
      · have hez := hxz (by omega)
        clear hxz
        have hmz := Bk.manyS_size 32 k
        by_cases h10 : bt s j = 10
        · have q1 : (bt s j == 10) = true := by simp [h10]
          have q2 : (bt s j != 10) = false := by simp [h10]
          have HN := Lib.hid (Bk.ind_lf (k := k) h10)
          go_wp2_with fail
          go_round
          case rel => exact ⟨j + 1, by omega, by go_num, by rw [HN.out]⟩
          case measure => simp [intOf]; omega
        · have q1 : (bt s j == 10) = false := by simp [h10]
          have q2 : (bt s j != 10) = true := by simp [h10]
          cases j with
          | zero =>
            have HN := Lib.hid (Bk.ind_zero (k := k) h10)
            have HE : Hid (Bk.indN s k 0 = ByteArray.empty) := Lib.hid rfl
            go_wp2_with (go_at_call 20; refine (blanks_any _ _ (by omega)).mono ?_; rintro e w' ⟨rfl, rfl⟩; rw [show ((k : Int)).toNat = k from by omega])
            go_round
            case rel => exact ⟨1, by omega, by go_num, by rw [HN.out, HE.out, ByteArray.empty_append]⟩
            case measure => simp [intOf]; omega
          | succ i =>
            by_cases h2 : bt s i = 10
            · have q3 : (bt s i == 10) = true := by simp [h2]
              have HN := Lib.hid (Bk.ind_new (k := k) h10 h2)
              go_wp2_with (go_at_call 20; refine (blanks_any _ _ (by omega)).mono ?_; rintro e w' ⟨rfl, rfl⟩; rw [show ((k : Int)).toNat = k from by omega])
              go_round
              case rel => exact ⟨i + 1 + 1, by omega, by go_num, by rw [HN.out]⟩
              case measure => simp [intOf]; omega
            · have q3 : (bt s i == 10) = false := by simp [h2]
              have HN := Lib.hid (Bk.ind_on (k := k) h10 h2)
              go_wp2_with fail
              go_round
              case rel => exact ⟨i + 1 + 1, by omega, by go_num, by rw [HN.out]⟩
              case measure => simp [intOf]; omega
      · obtain rfl : j = s.size := by omega
        clear hxz
        have HSR := Lib.hid (wrap_at (cp := cp) HLN.out HS2.out)
        have HIS : Hid (Bk.indS s k = Bk.indN s k s.size) := Lib.hid rfl
        go_wp2_with fail
        refine (show_at ((W : Int) + (k : Int)) 6 k ⟨#[]⟩ (Bk.wrapF F) _ 1 1 _ _ rfl HSW.out HSR.out HL6.out (by omega)).mono ?_
        rintro e w3 ⟨rfl, hg3⟩
        have HG3 := Lib.hid (HG2.out.trans ((((Below.refl w2.heap.size w2).alloc (Nat.le_refl _) (.cells #[.int .i64 5, .string ByteArray.empty, .int .i64 0, .slice a L cp] 26)).trans (hg3.mono (by simp))).mono HG2.out.size))
        clear hg3
        rw [HIS.out]
        go_wp2_with (go_at_call 9; refine (awake_any _).mono ?_; rintro e w5 ⟨rfl, hg5⟩; have HG5 := Lib.hid (HG3.out.trans (hg5.mono HG3.out.size)); clear hg5)
        go_ret
        exact ⟨rfl, HG5.out⟩
  · go_enter Try.func7, Try.ntmps7
    go_wp2_with (go_at_call 9; refine (awake_any _).mono ?_; rintro e w3 ⟨rfl, hg3⟩; have HG3 := Lib.hid hg3; clear hg3)
    go_ret
    exact ⟨rfl, HG3.out⟩
end Go.Proofs.Ythkpoiideiimaaa
