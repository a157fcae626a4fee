/- The law LayoWords of chapter 25: its walk. -/
import Derived.Test.YthkpoiideiimaaaWds0
namespace Go.Proofs.Ythkpoiideiimaaa
open Go Go.RowKit Go.PlainAid
set_option linter.unusedVariables false
open Bk (Fo)
/-- What the loop has made: j words of N were passed. -/
def WdsAt (T : Nat → ByteArray) (N k j : Nat) (B : Nat) (inn one more : Value) (w : World) : Prop :=
  (j < N ∧ w.ownsRow B 26 4 inn (Bk.inF T j).len (Bk.flatV (Bk.inF T j)) ∧ one = .string (Bk.oneS T j) ∧ more = .string (Bk.moreS T k j)) ∨
  (j = N ∧ w.ownsRow B 26 4 inn (Bk.inS T (N - 1)).len (Bk.flatV (Bk.inS T (N - 1))) ∧ one = .string (Bk.oneS T (N - 1) ++ T (N - 1)) ∧ more = .string (Bk.moreS T k (N - 1) ++ ⟨#[10]⟩ ++ Bk.manyS 32 k ++ T (N - 1)))
set_option maxRecDepth 100000 in
set_option maxHeartbeats 16000000 in
theorem words_walk (a0 : Option Addr) (len cap : Nat) (z : List Int) (a1 a2 a3 : Int) (w : World) (h0 : IntsAt w a0 len z) :
    Calls Try.prog 8 #[.slice a0 len cap, .int .i64 a1, .int .i64 a2, .int .i64 a3] w fun e w' => e = .returned (.bool true) ∧ Below w.heap.size w w' := by
  obtain ⟨hml, h0⟩ := h0
  unfold maxLen at hml
  by_cases hl : 1 ≤ len ∧ len ≤ 8
  · obtain ⟨hl1, hl8⟩ := hl
    rcases h0 with h0 | ⟨b, off, rfl, hb, hc⟩
    · omega
    have HC := Lib.hid hc
    have hwl := Bk.lowN_lt (x := a1) (n := 50) (by omega)
    have hnl := Bk.lowN_lt (x := a2) (n := 10) (by omega)
    have hxl := Bk.lowN_lt (x := a3) (n := 10) (by omega)
    obtain ⟨W, hW⟩ : ∃ W, W = Bk.lowN a1 50 := ⟨_, rfl⟩
    obtain ⟨n, hn⟩ : ∃ n, n = Bk.lowN a2 10 := ⟨_, rfl⟩
    obtain ⟨x, hx⟩ : ∃ x, x = Bk.lowN a3 10 := ⟨_, rfl⟩
    rw [← hW] at hwl
    rw [← hn] at hnl
    rw [← hx] at hxl
    have HW := Lib.hid hW
    have HN := Lib.hid hn
    have HX := Lib.hid hx
    clear hW hn hx hc
    obtain ⟨T, hT⟩ : ∃ T : Nat → ByteArray, T = fun i => Bk.wordS (z.getD i 0) := ⟨_, rfl⟩
    have HTI : Hid (∀ i, T i = Bk.wordS (z.getD i 0)) := Lib.hid (fun i => by rw [hT])
    have HTG : Hid (∀ i, ((∃ m, Bk.Gd (T i) m) ∧ (∀ j, j < (T i).size → bt (T i) j ≠ 10)) ∧ (T i).size ≤ 3) := Lib.hid (fun i => by rw [hT]; exact ⟨Bk.word_gd _, (Bk.wordS_is _).1⟩)
    have HT1 : Hid (∀ i, 1 ≤ (T i).size) := Lib.hid (fun i => by rw [hT]; exact (Bk.wordS_is _).2)
    clear hT
    go_enter Try.func8, Try.ntmps8
    go_wp2_with (first
      | (go_at_call 11; (with_reducible refine (low_any a1 50 _ (by omega) (by omega)).mono ?_); rintro e w' ⟨rfl, rfl⟩; rw [← HW.out])
      | (go_at_call 11; (with_reducible refine (low_any a2 10 _ (by omega) (by omega)).mono ?_); rintro e w' ⟨rfl, rfl⟩; rw [← HN.out])
      | (go_at_call 11; (with_reducible refine (low_any a3 10 _ (by omega) (by omega)).mono ?_); rintro e w' ⟨rfl, rfl⟩; rw [← HX.out]))
    have HST : Hid (WdsAt T len (x + n) 0 w.heap.size (.slice (some ⟨w.heap.size, 0, none⟩) 1 1) (.string ⟨#[]⟩) (.string ⟨#[]⟩) (w.alloc (.cells #[.int .i64 3, .string ⟨#[]⟩, .int .i64 0, .slice none 0 0] 26))) := Lib.hid (.inl ⟨by omega, World.ownsRow_lit w #[.int .i64 3, .string ⟨#[]⟩, .int .i64 0, .slice none 0 0] 1 (Nat.le_refl _) (by unfold maxLen; omega) rfl, rfl, rfl⟩)
    have HSB := Lib.hid ((Below.refl w.heap.size w).alloc (Nat.le_refl _) (.cells #[.int .i64 3, .string ⟨#[]⟩, .int .i64 0, .slice none 0 0] 26))
    go_loopw [12, 13, 14, 15] (fun inn one more i wr => ∃ j : Nat, j ≤ len ∧ i = .int .i64 j ∧ Hid (WdsAt T len (x + n) j w.heap.size inn one more wr) ∧ Hid (Below w.heap.size w wr)) (fun _ _ _ i _ => len - (intOf i).toNat)
    case atStart => exact ⟨0, by omega, rfl, HST, HSB⟩
    case round =>
      obtain ⟨j, hj, rfl, HR, HB⟩ := hrel
      by_cases hjl : j < len
      · rcases HR.out with ⟨_, hown, rfl, rfl⟩ | ⟨h, _⟩
        rotate_left
        · omega
        have HOWN := Lib.hid hown
        have hcj : wr.cell? ⟨b, off + j, none⟩ = some (.int .i64 (z.getD j 0)) := (HB.out.cell (p := ⟨b, off + j, none⟩) hb).trans (HC.out j hjl)
        obtain ⟨zj, hzj⟩ : ∃ zj, zj = z.getD j 0 := ⟨_, rfl⟩
        rw [← hzj] at hcj
        have HTJ : Hid (Bk.wordS zj = T j) := Lib.hid (by rw [HTI.out, hzj])
        have ho1 := Bk.one_size T (fun i => (HTG.out i).2) j
        have ho2 := Bk.more_size T (x + n) (fun i => (HTG.out i).2) j
        have ho3 := (HTG.out j).2
        have ho4 : (x + n + 5) * j ≤ 25 * 8 := Nat.mul_le_mul (by omega) (by omega)
        have hmz := Bk.manyS_size 32 (x + n)
        have hfl : (Bk.inF T j).len ≤ 20 := by rw [Bk.inF_len]; omega
        clear hown hzj
        by_cases hnx : j + 1 < len
        · go_wp2_with first
            | (go_at_call 16; refine (wordOf_any _ _).mono ?_; rintro e w2 ⟨rfl, hg⟩; rw [HTJ.out]; have HB2 := Lib.hid (HB.out.trans (hg.mono HB.out.size)); have HOWN2 := Lib.hid (owns_below HOWN.out hg); clear hg)
            | (at_builtin; (refine app_lv (w0 := w) rfl (.tmp 52) (.tmp 57) rfl u12 _ _ 2 [.int .i64 1, .string (T j ++ ⟨#[44]⟩), .int .i64 0, .slice none 0 0, .int .i64 2, .string ⟨#[]⟩, .int .i64 0, .slice none 0 0] rfl rfl HOWN2 rfl (by simp [Value.oneCell']) (by omega) (by omega) (by rfl) HB2 ?_; intro v3 w3 HO3 HB3))
            | (go_at_call 20; refine (blanks_any _ _ (by omega)).mono ?_; rintro e w' ⟨rfl, rfl⟩; rw [show ((x : Int) + (n : Int)).toNat = x + n from by omega])
          go_roundw
          case rel => exact ⟨j + 1, by omega, by go_num, Lib.hid (.inl ⟨hnx, by rw [Bk.inF, Fo.app_len, Bk.flatV_app]; exact HO3.out, by rw [Bk.oneS], by rw [Bk.moreS]⟩), HB3⟩
          case measure => simp [intOf]; omega
        · have hjl1 : len - 1 = j := by omega
          go_wp2_with first
            | (go_at_call 16; refine (wordOf_any _ _).mono ?_; rintro e w2 ⟨rfl, hg⟩; rw [HTJ.out]; have HB2 := Lib.hid (HB.out.trans (hg.mono HB.out.size)); have HOWN2 := Lib.hid (owns_below HOWN.out hg); clear hg)
            | (at_builtin; (refine app_lv (w0 := w) rfl (.tmp 65) (.tmp 68) rfl u12 _ _ 1 [.int .i64 1, .string (T j), .int .i64 0, .slice none 0 0] rfl rfl HOWN2 rfl (by simp [Value.oneCell']) (by omega) (by omega) (by rfl) HB2 ?_; intro v3 w3 HO3 HB3))
            | (go_at_call 20; refine (blanks_any _ _ (by omega)).mono ?_; rintro e w' ⟨rfl, rfl⟩; rw [show ((x : Int) + (n : Int)).toNat = x + n from by omega])
          go_roundw
          case rel => exact ⟨j + 1, by omega, by go_num, Lib.hid (.inr ⟨by omega, by rw [hjl1, Bk.inS, Fo.app_len, Bk.flatV_app]; exact HO3.out, by rw [hjl1], by rw [hjl1]⟩), HB3⟩
          case measure => simp [intOf]; omega
      · rcases HR.out with ⟨h, _⟩ | ⟨hjn, hown, rfl, rfl⟩
        · omega
        obtain ⟨m, rfl⟩ : ∃ m, len = m + 1 := ⟨len - 1, by omega⟩
        subst hjn
        rw [Nat.add_sub_cancel] at hown ⊢
        obtain ⟨a', cp', hv, hsl⟩ := own_flat hown (Bk.flat_app (Bk.inF_flat T m) ⟨rfl, trivial⟩)
        subst hv
        obtain ⟨L, hL⟩ : ∃ L, (Bk.inS T m).len = L := ⟨_, rfl⟩
        rw [hL]
        have HSG := Lib.hid (group_at (cp := cp') (step := n) hL hsl)
        have HLY := Lib.hid (words_lays T HTG.out m x n (by omega) (by omega) (by omega))
        have HSH := Lib.hid (Bk.words_show W T (fun i => (HTG.out i).1.1) (fun i => HT1.out i) m x n (by omega) (by omega))
        have ho1 := Bk.one_size T (fun i => (HTG.out i).2) m
        have ho2 := Bk.more_size T (x + n) (fun i => (HTG.out i).2) m
        have ho3 := (HTG.out m).2
        have ho4 : (x + n + 5) * m ≤ 25 * 8 := Nat.mul_le_mul (by omega) (by omega)
        have hmz := Bk.manyS_size 32 (x + n)
        have hmz2 := Bk.manyS_size 32 x
        obtain ⟨O, hO⟩ : ∃ O, O = Bk.oneS T m ++ T m := ⟨_, rfl⟩
        obtain ⟨M, hM⟩ : ∃ M, M = Bk.moreS T (x + n) m ++ ⟨#[10]⟩ ++ Bk.manyS 32 (x + n) ++ T m := ⟨_, rfl⟩
        have e10 : (⟨#[10]⟩ : ByteArray).size = 1 := rfl
        have hoz : O.size ≤ 100 := by rw [hO, Bk.size_app]; omega
        have hmz3 : M.size ≤ 400 := by rw [hM, Bk.size_app, Bk.size_app, Bk.size_app]; omega
        rw [← hO, ← hM]
        have HO := Lib.hid hO
        have HM := Lib.hid hM
        have hwo := Bk.widS_le O
        obtain ⟨wo, hwo2⟩ : ∃ wo, wo = Bk.widS O := ⟨_, rfl⟩
        rw [← hwo2] at hwo
        have HWO := Lib.hid hwo2
        clear hsl hown hL hO hM hwo2
        obtain ⟨s, hs⟩ : ∃ s, Bk.showN (max (W : Int) 0) 6 ⟨#[]⟩ x (Bk.wordsF T m n) = s := ⟨_, rfl⟩
        have HSS := Lib.hid hs
        have HSE : Hid (s = if (x : Int) + 5 + wo ≤ W then Bk.wantOne T m x else Bk.wantMore T m x (x + n)) := Lib.hid (by
          rw [← hs, show max (W : Int) 0 = W from by omega, HWO.out, HO.out]; exact HSH.out)
        clear hs
        have HBX : Hid (Below w.heap.size w (((wr.alloc (.cells #[.int .i64 1, .string ⟨#[91]⟩, .int .i64 0, .slice none 0 0, .int .i64 6, .string ⟨#[]⟩, .int .i64 n, .slice a' L cp', .int .i64 3, .string ⟨#[]⟩, .int .i64 0, .slice none 0 0, .int .i64 1, .string ⟨#[93]⟩, .int .i64 0, .slice none 0 0] 26)).alloc (.cells #[.int .i64 7, .string ⟨#[]⟩, .int .i64 0, .slice (some ⟨wr.heap.size, 0, none⟩) 4 4] 26)).alloc (.cells #[.int .i64 1, .string ⟨#[107, 58, 32]⟩, .int .i64 0, .slice none 0 0, .int .i64 7, .string ⟨#[]⟩, .int .i64 0, .slice (some ⟨wr.heap.size, 0, none⟩) 4 4] 26))) := Lib.hid (((HB.out.alloc HB.out.size _).alloc (by have := HB.out.size; simp; omega) _).alloc (by have := HB.out.size; simp; omega) _)
        have HSX : Hid (SlAt (((wr.alloc (.cells #[.int .i64 1, .string ⟨#[91]⟩, .int .i64 0, .slice none 0 0, .int .i64 6, .string ⟨#[]⟩, .int .i64 n, .slice a' L cp', .int .i64 3, .string ⟨#[]⟩, .int .i64 0, .slice none 0 0, .int .i64 1, .string ⟨#[93]⟩, .int .i64 0, .slice none 0 0] 26)).alloc (.cells #[.int .i64 7, .string ⟨#[]⟩, .int .i64 0, .slice (some ⟨wr.heap.size, 0, none⟩) 4 4] 26)).alloc (.cells #[.int .i64 1, .string ⟨#[107, 58, 32]⟩, .int .i64 0, .slice none 0 0, .int .i64 7, .string ⟨#[]⟩, .int .i64 0, .slice (some ⟨wr.heap.size, 0, none⟩) 4 4] 26)) (fun _ => True) (some ⟨wr.heap.size + 1 + 1, 0, none⟩) (Bk.wordsF T m n)) := Lib.hid (by
          have h := words_at (cp := 4) (HSG.out.below ((Below.refl _ _).alloc (Nat.le_refl _) (.cells #[.int .i64 7, .string ⟨#[]⟩, .int .i64 0, .slice (some ⟨wr.heap.size, 0, none⟩) 4 4] 26)))
          have e : ((wr.alloc (.cells #[.int .i64 1, .string ⟨#[91]⟩, .int .i64 0, .slice none 0 0, .int .i64 6, .string ⟨#[]⟩, .int .i64 n, .slice a' L cp', .int .i64 3, .string ⟨#[]⟩, .int .i64 0, .slice none 0 0, .int .i64 1, .string ⟨#[93]⟩, .int .i64 0, .slice none 0 0] 26)).alloc (.cells #[.int .i64 7, .string ⟨#[]⟩, .int .i64 0, .slice (some ⟨wr.heap.size, 0, none⟩) 4 4] 26)).heap.size = wr.heap.size + 1 + 1 := by simp
          rw [e] at h
          exact h)
        go_wp2_with fail
        refine (show_at W 6 x ⟨#[]⟩ (Bk.wordsF T m n) _ 2 2 s _ rfl HSS.out HSX.out HLY.out (by omega)).mono ?_
        rintro e w3 ⟨rfl, hg3⟩
        have HG3 := Lib.hid (HBX.out.trans (hg3.mono HBX.out.size))
        clear hg3
        by_cases hle : (x : Int) + 5 + wo ≤ W
        · have hse : s = Bk.manyS 32 x ++ ⟨#[107, 58, 32, 91]⟩ ++ O ++ ⟨#[93]⟩ := by rw [HSE.out, if_pos hle, HO.out]; rfl
          clear HSE HSS
          subst hse
          go_wp2_with (first
            | (go_at_call 17; refine (width_any O _ (by omega)).mono ?_; rintro e w5 ⟨rfl, hg5⟩; rw [← HWO.out]; have HG5 := Lib.hid (HG3.out.trans (hg5.mono HG3.out.size)); clear hg5)
            | (go_at_call 20; refine (blanks_any _ _ (by omega)).mono ?_; rintro e w' ⟨rfl, rfl⟩; rw [show (x : Int).toNat = x from by omega])
            | (go_at_call 9; refine (awake_any _).mono ?_; rintro e w6 ⟨rfl, hg6⟩; have HG6 := Lib.hid (HG5.out.trans (hg6.mono HG5.out.size)); clear hg6))
          go_ret
          exact ⟨rfl, HG6.out⟩
        · have hse : s = Bk.manyS 32 x ++ ⟨#[107, 58, 32, 91]⟩ ++ M ++ ⟨#[10]⟩ ++ Bk.manyS 32 x ++ ⟨#[93]⟩ := by rw [HSE.out, if_neg hle, HM.out]; rfl
          clear HSE HSS
          subst hse
          go_wp2_with (first
            | (go_at_call 17; refine (width_any O _ (by omega)).mono ?_; rintro e w5 ⟨rfl, hg5⟩; rw [← HWO.out]; have HG5 := Lib.hid (HG3.out.trans (hg5.mono HG3.out.size)); clear hg5)
            | (go_at_call 20; refine (blanks_any _ _ (by omega)).mono ?_; rintro e w' ⟨rfl, rfl⟩; rw [show (x : Int).toNat = x from by omega])
            | (go_at_call 9; refine (awake_any _).mono ?_; rintro e w6 ⟨rfl, hg6⟩; have HG6 := Lib.hid (HG5.out.trans (hg6.mono HG5.out.size)); clear hg6))
          go_ret
          exact ⟨rfl, HG6.out⟩
  · have hd : decide (len < 1) = true ∨ (decide (len < 1) = false ∧ decide (8 < len) = true) := by
      by_cases h : len < 1
      · exact .inl (decide_eq_true h)
      · exact .inr ⟨decide_eq_false h, decide_eq_true (by omega)⟩
    by_cases h1 : len < 1
    · go_enter Try.func8, Try.ntmps8
      go_wp2_with (go_at_call 9; refine (awake_any _).mono ?_; rintro e w3 ⟨rfl, hg3⟩; have HG3 := Lib.hid hg3; clear hg3)
      go_ret
      exact ⟨rfl, HG3.out⟩
    · have h8 : 8 < len := by omega
      go_enter Try.func8, Try.ntmps8
      go_wp2_with (go_at_call 9; refine (awake_any _).mono ?_; rintro e w3 ⟨rfl, hg3⟩; have HG3 := Lib.hid hg3; clear hg3)
      go_ret
      exact ⟨rfl, HG3.out⟩
end Go.Proofs.Ythkpoiideiimaaa
