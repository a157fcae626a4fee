/- The law LayoRows of chapter 25: its walk. -/
import Derived.Test.YthkpoiideiimaaaRws1
namespace Go.Proofs.Ythkpoiideiimaaa
open Go Go.RowKit Go.PlainAid
set_option linter.unusedVariables false
open Bk (Fo)
theorem int_top {x : Int} (h : (Lit.int .i64 x).wf = true) : x ≤ 9223372036854775807 := by
  unfold Lit.wf at h
  rw [Bool.and_eq_true] at h
  exact of_decide_eq_true h.2
set_option maxRecDepth 100000 in
set_option maxHeartbeats 16000000 in
theorem rows_walk (a0 : Option Addr) (len cap : Nat) (z : List Int) (a1 : Option Addr) (len1 cap1 : Nat) (z1 : List Int) (a2 : Int) (w : World) (h0 : IntsAt w a0 len z) (h1 : IntsAt w a1 len1 z1) (h2 : a2 ≤ 9223372036854775807) :
    Calls Try.prog 5 #[.slice a0 len cap, .slice a1 len1 cap1, .int .i64 a2] w fun e w' => e = .returned (.bool true) ∧ Below w.heap.size w w' := by
  obtain ⟨hml, h0⟩ := h0
  obtain ⟨hml1, h1⟩ := h1
  unfold maxLen at hml hml1
  have H0 := Lib.hid h0
  have H1 := Lib.hid h1
  clear h0 h1
  by_cases hl : len ≤ 8
  · obtain ⟨C, hC⟩ : ∃ C : Nat → Int, C = fun i => (Bk.colN z1 len1 i : Int) := ⟨_, rfl⟩
    obtain ⟨T, hT⟩ : ∃ T : Nat → ByteArray, T = fun i => Bk.wrdS z i := ⟨_, rfl⟩
    have HCI : Hid (∀ i, C i = Bk.colN z1 len1 i) := Lib.hid (fun i => by rw [hC])
    have HTI : Hid (∀ i, T i = Bk.wrdS z i) := Lib.hid (fun i => by rw [hT])
    have HCG : Hid (∀ i, 0 ≤ C i ∧ C i < 12) := Lib.hid (fun i => by rw [hC]; have := Bk.colN_lt z1 len1 i; exact ⟨by show (0 : Int) ≤ (Bk.colN z1 len1 i : Nat); omega, by show ((Bk.colN z1 len1 i : Nat) : Int) < 12; omega⟩)
    have HTG : Hid (∀ i, ((∃ m, Bk.Gd (T i) m) ∧ (∀ j, j < (T i).size → bt (T i) j ≠ 10)) ∧ (T i).size ≤ 3) := Lib.hid (fun i => by rw [hT]; exact Bk.wrdS_good z i)
    clear hC hT
    have HST : Hid (RM w w.heap.size (.slice none 0 0) .nil [] (w.alloc (.cells #[.int .i64 5, .string ⟨#[]⟩, .int .i64 0, .slice none 0 0] 26))) :=
      Lib.hid ⟨World.ownsRow_nil _ _ _ _, rfl, heap_alloc_new w _, Nat.le_refl _, (Below.refl _ _).alloc (Nat.le_refl _) _⟩
    go_enter Try.func5, Try.ntmps5
    go_wp2_with fail
    go_loopw [8, 9] (fun want i wr => ∃ (j : Nat) (v : Value) (vs : List Value), j ≤ len ∧ i = .int .i64 j ∧ want = .string (Bk.rowsS C T j) ∧ Hid (RM w w.heap.size v (Bk.rowsF C T j) vs wr)) (fun _ i _ => len - (intOf i).toNat)
    case atStart => exact ⟨0, _, _, by omega, rfl, rfl, HST⟩
    case round =>
      obtain ⟨j, v, vs, hj, rfl, rfl, HR⟩ := hrel
      obtain ⟨d0, d1, d2, d3, df⟩ := HR.out.cells
      by_cases hjl : j < len
      · have hsz := Bk.rowsS_size C T HCG.out (fun i => (HTG.out i).2) j
        have hTz := (HTG.out j).2
        have hCz := HCG.out j
        rcases H0.out with h0 | ⟨b, off, rfl, hb, hc⟩
        · omega
        have hcj : wr.cell? ⟨b, off + j, none⟩ = some (.int .i64 (z.getD j 0)) := (HR.out.below.cell (p := ⟨b, off + j, none⟩) hb).trans (hc j hjl)
        obtain ⟨zj, hzj⟩ : ∃ zj, zj = z.getD j 0 := ⟨_, rfl⟩
        rw [← hzj] at hcj
        obtain ⟨K, hK⟩ : ∃ K, K = Bk.lowN zj 11 := ⟨_, rfl⟩
        have HK := Lib.hid hK
        have hRL : (Bk.rowsF C T j).len = 2 * j := Bk.rowsF_len C T j
        have HRL := Lib.hid hRL
        have HLT := Lib.hid HR.out.lt
        clear hc hRL
        have hmz := Bk.manyS_size 32 (C j).toNat
        have e10 : (⟨#[10]⟩ : ByteArray).size = 1 := rfl
        obtain ⟨M0, hM0⟩ : ∃ M0, Bk.manyS 32 (0 : Int).toNat = M0 := ⟨_, rfl⟩
        have hM0z : M0.size = 0 := by rw [← hM0]; rfl
        have HM0 := Lib.hid hM0
        clear hM0
        by_cases hK10 : K < 10
        · have HTJ : Hid (Bk.wordS (K : Nat) = T j) := Lib.hid (by rw [HTI.out]; unfold Bk.wrdS; rw [← hzj, ← hK, if_pos hK10])
          have HT1 : Hid (1 ≤ (T j).size) := Lib.hid (by rw [← HTJ.out]; exact (Bk.wordS_is _).2)
          clear hK hzj
          by_cases hj1 : j < len1
          · rcases H1.out with h1 | ⟨b1, off1, rfl, hb1, hc1⟩
            · omega
            have hcj1 : wr.cell? ⟨b1, off1 + j, none⟩ = some (.int .i64 (z1.getD j 0)) := (HR.out.below.cell (p := ⟨b1, off1 + j, none⟩) hb1).trans (hc1 j hj1)
            obtain ⟨zk, hzk⟩ : ∃ zk, zk = z1.getD j 0 := ⟨_, rfl⟩
            rw [← hzk] at hcj1
            have HCJ : Hid ((Bk.lowN zk 12 : Nat) = C j) := Lib.hid (by rw [HCI.out]; unfold Bk.colN; rw [if_pos hj1, hzk])
            clear hc1 hzk
            go_wp2_with first
              | (go_at_call 11; (with_reducible refine (low_any zk 12 _ (by omega) (by omega)).mono ?_); rintro e w' ⟨rfl, rfl⟩; rw [HCJ.out])
              | (go_at_call 11; (with_reducible refine (low_any zj 11 _ (by omega) (by omega)).mono ?_); rintro e w' ⟨rfl, rfl⟩; rw [← HK.out])
              | (go_at_call 16; refine (wordOf_any _ _).mono ?_; rintro e w2 ⟨rfl, hg⟩; rw [HTJ.out]; have HR2 := Lib.hid (HR.out.call hg); clear hg d0 d1 d2 d3 df; obtain ⟨d0, d1, d2, d3, df⟩ := HR2.out.cells)
              | (go_at_call 20; refine (blanks_any _ _ (by omega)).mono ?_; rintro e w' ⟨rfl, rfl⟩)
              | (at_builtin; refine app_rm (w0 := w) rfl (.tmp 51) (.tmp 58) rfl v _ vs (C j) (T j) rfl rfl HR2 (by rw [HRL.out]; omega) (by rfl) ?_; intro g cp w4 g3 gf HR4)
            go_roundw
            case rel =>
              obtain ⟨vs4, hR4⟩ := HR4.out
              exact ⟨j + 1, _, vs4, by omega, by go_num, by rw [Bk.rowsS, if_neg (by have := HT1.out; omega)], Lib.hid (by rw [Bk.rowsF, show Bk.rowF (C j) (T j) = Bk.rowF (C j) (T j) from rfl]; exact hR4)⟩
            case measure => simp [intOf]; omega
          · have HCJ : Hid (C j = 0) := Lib.hid (by rw [HCI.out]; unfold Bk.colN; rw [if_neg hj1]; rfl)
            go_wp2_with first
              | (go_at_call 11; (with_reducible refine (low_any zj 11 _ (by omega) (by omega)).mono ?_); rintro e w' ⟨rfl, rfl⟩; rw [← HK.out])
              | (go_at_call 16; refine (wordOf_any _ _).mono ?_; rintro e w2 ⟨rfl, hg⟩; rw [HTJ.out]; have HR2 := Lib.hid (HR.out.call hg); clear hg d0 d1 d2 d3 df; obtain ⟨d0, d1, d2, d3, df⟩ := HR2.out.cells)
              | (go_at_call 20; refine (blanks_any _ _ (by omega)).mono ?_; rintro e w' ⟨rfl, rfl⟩; rw [HM0.out])
              | (at_builtin; refine app_rm (w0 := w) rfl (.tmp 51) (.tmp 58) rfl v _ vs 0 (T j) rfl rfl HR2 (by rw [HRL.out]; omega) (by rfl) ?_; intro g cp w4 g3 gf HR4)
            go_roundw
            case rel =>
              obtain ⟨vs4, hR4⟩ := HR4.out
              exact ⟨j + 1, _, vs4, by omega, by go_num, by rw [Bk.rowsS, if_neg (by have := HT1.out; omega)]; rw [HCJ.out, HM0.out], Lib.hid (by rw [Bk.rowsF, HCJ.out]; exact hR4)⟩
            case measure => simp [intOf]; omega
        · have HT0 : Hid (T j = ByteArray.empty) := Lib.hid (by rw [HTI.out]; unfold Bk.wrdS; rw [← hzj, ← hK, if_neg hK10])
          clear hK hzj
          by_cases hj1 : j < len1
          · rcases H1.out with h1 | ⟨b1, off1, rfl, hb1, hc1⟩
            · omega
            have hcj1 : wr.cell? ⟨b1, off1 + j, none⟩ = some (.int .i64 (z1.getD j 0)) := (HR.out.below.cell (p := ⟨b1, off1 + j, none⟩) hb1).trans (hc1 j hj1)
            obtain ⟨zk, hzk⟩ : ∃ zk, zk = z1.getD j 0 := ⟨_, rfl⟩
            rw [← hzk] at hcj1
            have HCJ : Hid ((Bk.lowN zk 12 : Nat) = C j) := Lib.hid (by rw [HCI.out]; unfold Bk.colN; rw [if_pos hj1, hzk])
            clear hc1 hzk
            go_wp2_with first
              | (go_at_call 11; (with_reducible refine (low_any zk 12 _ (by omega) (by omega)).mono ?_); rintro e w' ⟨rfl, rfl⟩; rw [HCJ.out])
              | (go_at_call 11; (with_reducible refine (low_any zj 11 _ (by omega) (by omega)).mono ?_); rintro e w' ⟨rfl, rfl⟩; rw [← HK.out])
              | (at_builtin; refine app_rm (w0 := w) rfl (.tmp 51) (.tmp 58) rfl v _ vs (C j) ⟨#[]⟩ rfl rfl HR (by rw [HRL.out]; omega) (by rfl) ?_; intro g cp w4 g3 gf HR4)
            go_roundw
            case rel =>
              obtain ⟨vs4, hR4⟩ := HR4.out
              exact ⟨j + 1, _, vs4, by omega, by go_num, by rw [Bk.rowsS, if_pos (by rw [HT0.out]; rfl)], Lib.hid (by rw [Bk.rowsF, HT0.out]; exact hR4)⟩
            case measure => simp [intOf]; omega
          · have HCJ : Hid (C j = 0) := Lib.hid (by rw [HCI.out]; unfold Bk.colN; rw [if_neg hj1]; rfl)
            go_wp2_with first
              | (go_at_call 11; (with_reducible refine (low_any zj 11 _ (by omega) (by omega)).mono ?_); rintro e w' ⟨rfl, rfl⟩; rw [← HK.out])
              | (at_builtin; refine app_rm (w0 := w) rfl (.tmp 51) (.tmp 58) rfl v _ vs 0 ⟨#[]⟩ rfl rfl HR (by rw [HRL.out]; omega) (by rfl) ?_; intro g cp w4 g3 gf HR4)
            go_roundw
            case rel =>
              obtain ⟨vs4, hR4⟩ := HR4.out
              exact ⟨j + 1, _, vs4, by omega, by go_num, by rw [Bk.rowsS, if_pos (by rw [HT0.out]; rfl)], Lib.hid (by rw [Bk.rowsF, HCJ.out, HT0.out]; exact hR4)⟩
            case measure => simp [intOf]; omega
      · obtain rfl : j = len := by omega
        obtain ⟨a', cp', hv, hsl⟩ := HR.out.slice
        subst hv
        have HSL := Lib.hid hsl
        have HLY := Lib.hid (rows_lays C T HCG.out HTG.out j hl)
        have HBW := Lib.hid HR.out.below
        obtain ⟨L, hL⟩ : ∃ L, (Bk.rowsF C T j).len = L := ⟨_, rfl⟩
        rw [hL] at d3
        have HLN := Lib.hid hL
        have HSS : Hid (Bk.showN (max a2 0) 5 ⟨#[]⟩ 0 (Bk.rowsF C T j) = Bk.rowsS C T j) := Lib.hid (Bk.rows_show _ C T (fun i => by have := HCG.out i; omega) j)
        obtain ⟨s, hs⟩ : ∃ s, Bk.rowsS C T j = s := ⟨_, rfl⟩
        have HE := Lib.hid hs
        clear hsl hL hs
        rw [HE.out]
        go_wp2_with fail
        refine (show_at a2 5 0 ⟨#[]⟩ (Bk.rowsF C T j) a' cp' L s wr HLN.out (HSS.out.trans HE.out) HSL.out HLY.out h2).mono ?_
        rintro e w3 ⟨rfl, hg3⟩
        have HG3 := Lib.hid (HBW.out.trans (hg3.mono HBW.out.size))
        clear hg3
        go_wp2_with (go_at_call 9; refine (awake_any _).mono ?_; rintro e w5 ⟨rfl, hg5⟩; have HG5 := Lib.hid (HG3.out.trans (hg5.mono HG3.out.size)); clear hg5)
        go_ret
        exact ⟨rfl, HG5.out⟩
  · go_enter Try.func5, Try.ntmps5
    go_wp2_with (go_at_call 9; refine (awake_any _).mono ?_; rintro e w3 ⟨rfl, hg3⟩; have HG3 := Lib.hid hg3; clear hg3)
    go_ret
    exact ⟨rfl, HG3.out⟩
end Go.Proofs.Ythkpoiideiimaaa
