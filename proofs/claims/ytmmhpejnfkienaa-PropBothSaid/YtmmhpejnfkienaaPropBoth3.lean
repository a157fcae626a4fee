/- The law PropBoth of chapter 14: of neither, and all as one. -/
import Derived.Test.YtmmhpejnfkienaaPropBoth2
namespace Go.Proofs.Ytmmhpejnfkienaa
open Go Go.RowKit Go.PlainAid
set_option linter.unusedVariables false
namespace Bk
theorem none_at : ∀ fl, readI (⟨#[]⟩ ++ ⟨#[122]⟩) 0 fl = (ByteArray.empty, ByteArray.empty, 0, 0) := by decide +kernel
theorem none_far : readI (⟨#[]⟩ ++ ⟨#[32, 38, 113, 32, 33, 113, 32, 33, 113]⟩) 0 false = (ByteArray.empty, ByteArray.empty, 0, 0) := by decide +kernel
end Bk
set_option maxRecDepth 20000 in
set_option maxHeartbeats 3200000 in
theorem both_00 (a1 a2 a3 a4 : Int) (swap : Bool) (w : World) :
    Calls Try.prog 11 #[.int .i64 a1, .int .i64 a2, .bool false, .bool false, .bool swap, .int .i64 a3, .int .i64 a4] w fun e w' => e = .returned (.bool true) ∧ Below w.heap.size w w' := by
  have hi := Bk.lowN_lt (x := a1) (n := 5) (by omega)
  have hj := Bk.lowN_lt (x := a2) (n := 5) (by omega)
  have he := Bk.lowN_lt (x := a4) (n := 5) (by omega)
  obtain ⟨tw, tw2, tw3⟩ := Bk.nm5_at (Bk.lowN a1 5) (by omega)
  obtain ⟨tt, tt2, tt3⟩ := Bk.tg5_at (Bk.lowN a2 5) (by omega)
  obtain ⟨te, te2⟩ := Bk.en5_at (Bk.lowN a4 5) (by omega)
  obtain ⟨W, hW⟩ : ∃ W, W = Bk.nm5.getD (Bk.lowN a1 5) ByteArray.empty := ⟨_, rfl⟩
  obtain ⟨T, hT⟩ : ∃ T, T = Bk.tg5.getD (Bk.lowN a2 5) ByteArray.empty := ⟨_, rfl⟩
  obtain ⟨E, hE⟩ : ∃ E, E = Bk.en5.getD (Bk.lowN a4 5) ByteArray.empty := ⟨_, rfl⟩
  simp only [← hW, ← hT, ← hE] at tw tw2 tw3 tt tt2 tt3 te te2
  clear hW hT hE
  have q1 : ({ data := #[38] } : ByteArray).size ≤ 1 := by decide
  have q4 := Bk.size_app ⟨#[38]⟩ W
  have HRT := Lib.hid (Bk.none_at true)
  have HRF := Lib.hid (Bk.none_at false)
  have HR3 := Lib.hid Bk.none_far
  have hz1 : (⟨#[]⟩ ++ ⟨#[122]⟩ : ByteArray).size ≤ 4611686018427387903 := by decide
  have hz2 : (⟨#[]⟩ ++ ⟨#[32, 38, 113, 32, 33, 113, 32, 33, 113]⟩ : ByteArray).size ≤ 4611686018427387903 := by decide
  cases swap
  all_goals
    go_enter Try.func11, Try.ntmps11
    go_wp2_with first
      | (go_at_call 32; with_reducible refine (low_any a1 5 _ (by omega) (by omega)).mono ?_; rintro e w' ⟨rfl, rfl⟩)
      | (go_at_call 32; with_reducible refine (low_any a2 5 _ (by omega) (by omega)).mono ?_; rintro e w' ⟨rfl, rfl⟩)
      | (go_at_call 32; with_reducible refine (low_any a4 5 _ (by omega) (by omega)).mono ?_; rintro e w' ⟨rfl, rfl⟩)
    go_loopw [23] (fun i wr => ∃ k : Nat, k ≤ 2 ∧ i = .int .i64 k ∧ Hid (Below w.heap.size w wr)) (fun i _ => 2 - (intOf i).toNat)
    case atStart => exact ⟨0, by omega, rfl, Lib.hid (by go_grown)⟩
    case round =>
      obtain ⟨k, hk, rfl, HB⟩ := hrel
      rcases (by omega : k = 0 ∨ k = 1 ∨ k = 2) with rfl | rfl | rfl
      · go_wp2_with (go_at_call 52; refine (read_any _ _ _ _ hz1 (by decide)).mono ?_; rintro e w' ⟨rfl, hg⟩; rw [HRF.out]; unfold back4i; have HG := Lib.hid (HB.out.trans (hg.mono HB.out.size)); clear hg)
        go_roundw
        case rel => exact ⟨1, by omega, rfl, HG⟩
        case measure => simp [intOf]
      · go_wp2_with (go_at_call 52; refine (read_any _ _ _ _ hz1 (by decide)).mono ?_; rintro e w' ⟨rfl, hg⟩; rw [HRT.out]; unfold back4i; have HG := Lib.hid (HB.out.trans (hg.mono HB.out.size)); clear hg)
        go_roundw
        case rel => exact ⟨2, by omega, rfl, HG⟩
        case measure => simp [intOf]
      · go_wp2_with first
          | (go_at_call 52; refine (read_any _ _ _ _ hz2 (by decide)).mono ?_; rintro e w' ⟨rfl, hg⟩; rw [HR3.out]; unfold back4i; have HG := Lib.hid (HB.out.trans (hg.mono HB.out.size)); clear hg)
          | (go_at_call 50; refine (awake14 _).mono ?_; rintro e w' ⟨rfl, hg⟩; have HG3 := Lib.hid (HG.out.trans (hg.mono HG.out.size)); clear hg)
        go_ret
        exact ⟨rfl, HG3.out⟩
theorem propBoth_walk (a1 a2 : Int) (has is swap : Bool) (a3 a4 : Int) (w : World) :
    Calls Try.prog 11 #[.int .i64 a1, .int .i64 a2, .bool has, .bool is, .bool swap, .int .i64 a3, .int .i64 a4] w fun e w' => e = .returned (.bool true) ∧ Below w.heap.size w w' := by
  cases has <;> cases is
  · exact both_00 a1 a2 a3 a4 swap w
  · cases swap
    · exact both_010 a1 a2 a3 a4 w
    · exact both_011 a1 a2 a3 a4 w
  · cases swap
    · exact both_100 a1 a2 a3 a4 w
    · exact both_101 a1 a2 a3 a4 w
  · cases swap
    · exact both_110 a1 a2 a3 a4 w
    · exact both_111 a1 a2 a3 a4 w
end Go.Proofs.Ytmmhpejnfkienaa
