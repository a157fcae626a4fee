/- The law PropBoth of chapter 14: its walk, by which there are of the two, and in which order. -/
import Derived.Test.YtmmhpejnfkienaaPropBoth
namespace Go.Proofs.Ytmmhpejnfkienaa
open Go Go.RowKit Go.PlainAid
set_option linter.unusedVariables false
namespace Bk
theorem nm5_at : ∀ k, k < 5 → ([Value.string ⟨#[97]⟩, Value.string ⟨#[98, 45, 99]⟩, Value.string ⟨#[195, 169]⟩, Value.string ⟨#[120, 58]⟩, Value.string ⟨#[49, 35]⟩] : List Value)[k]? = some (.string (nm5.getD k ByteArray.empty)) ∧ (nm5.getD k ByteArray.empty).size ≤ 3 ∧ 1 ≤ (nm5.getD k ByteArray.empty).size := by
  intro k hk
  rcases (by omega : k = 0 ∨ k = 1 ∨ k = 2 ∨ k = 3 ∨ k = 4) with rfl | rfl | rfl | rfl | rfl
  all_goals exact ⟨rfl, by decide, by decide⟩
theorem tg5_at : ∀ k, k < 5 → ([Value.string ⟨#[33]⟩, Value.string ⟨#[33, 116]⟩, Value.string ⟨#[33, 33, 115, 116, 114]⟩, Value.string ⟨#[33, 101, 33, 120]⟩, Value.string ⟨#[33, 60, 97, 58, 98, 62]⟩] : List Value)[k]? = some (.string (tg5.getD k ByteArray.empty)) ∧ (tg5.getD k ByteArray.empty).size ≤ 6 ∧ 1 ≤ (tg5.getD k ByteArray.empty).size := by
  intro k hk
  rcases (by omega : k = 0 ∨ k = 1 ∨ k = 2 ∨ k = 3 ∨ k = 4) with rfl | rfl | rfl | rfl | rfl
  all_goals exact ⟨rfl, by decide, by decide⟩
theorem en5_at : ∀ k, k < 5 → ([Value.string ⟨#[32, 122]⟩, Value.string ⟨#[10]⟩, Value.string ⟨#[9, 122]⟩, Value.string ⟨#[]⟩, Value.string ⟨#[32, 10]⟩] : List Value)[k]? = some (.string (en5.getD k ByteArray.empty)) ∧ (en5.getD k ByteArray.empty).size ≤ 2 := by
  intro k hk
  rcases (by omega : k = 0 ∨ k = 1 ∨ k = 2 ∨ k = 3 ∨ k = 4) with rfl | rfl | rfl | rfl | rfl
  all_goals exact ⟨rfl, by decide⟩
/-- What is wrong with more behind. -/
def errR (s : ByteArray) (d : Int) : Bool := decide ((readI (s ++ ⟨#[32, 38, 113, 32, 33, 113, 32, 33, 113]⟩) 0 false).2.2.1 = (s.size : Int) + d) && decide ((readI (s ++ ⟨#[32, 38, 113, 32, 33, 113, 32, 33, 113]⟩) 0 false).2.2.2 = 5)
theorem one_err : ∀ i, i < 5 → errR (⟨#[38]⟩ ++ nm5.getD i ByteArray.empty) 1 = true := by decide +kernel
theorem tag_err : ∀ i, i < 5 → errR (tg5.getD i ByteArray.empty) 4 = true := by decide +kernel
theorem two_err : ∀ i, i < 5 → ∀ j, j < 5 → ∀ b, b < 3 → errR (⟨#[38]⟩ ++ nm5.getD i ByteArray.empty ++ manyS 32 (1 + b) ++ tg5.getD j ByteArray.empty) 1 = true := by decide +kernel
theorem two_err2 : ∀ i, i < 5 → ∀ j, j < 5 → ∀ b, b < 3 → errR (tg5.getD j ByteArray.empty ++ manyS 32 (1 + b) ++ (⟨#[38]⟩ ++ nm5.getD i ByteArray.empty)) 1 = true := by decide +kernel
theorem okR_of {s e x y : ByteArray} (h : okR s e x y = true) : readI (s ++ e) 0 true = (x, y, (s.size : Int), 0) ∧ readI (s ++ e) 0 false = (x, y, (s.size : Int), 0) := by
  simpa [okR] using h
theorem errR_of {s : ByteArray} {d : Int} (h : errR s d = true) : ∃ x y, readI (s ++ ⟨#[32, 38, 113, 32, 33, 113, 32, 33, 113]⟩) 0 false = (x, y, (s.size : Int) + d, 5) := by
  have h2 : (readI (s ++ ⟨#[32, 38, 113, 32, 33, 113, 32, 33, 113]⟩) 0 false).2.2.1 = (s.size : Int) + d ∧ (readI (s ++ ⟨#[32, 38, 113, 32, 33, 113, 32, 33, 113]⟩) 0 false).2.2.2 = 5 := by simpa [errR] using h
  exact ⟨_, _, by rw [← h2.1, ← h2.2]⟩
theorem not_empty {s : ByteArray} (h : 1 ≤ s.size) : s.toList.isEmpty = false := by
  rw [Lib.toList_data]
  cases hq : s.data.toList with
  | nil => exfalso; have : s.data.toList.length = 0 := by rw [hq]; rfl
           rw [Array.length_toList] at this; have h2 : s.size = 0 := this; omega
  | cons x l => rfl
end Bk
set_option maxRecDepth 20000 in
set_option maxHeartbeats 3200000 in
theorem both_110 (a1 a2 a3 a4 : Int) (w : World) :
    Calls Try.prog 11 #[.int .i64 a1, .int .i64 a2, .bool true, .bool true, .bool false, .int .i64 a3, .int .i64 a4] w fun e w' => e = .returned (.bool true) ∧ Below w.heap.size w w' := by
  have hi := Bk.lowN_lt (x := a1) (n := 5) (by omega)
  have hj := Bk.lowN_lt (x := a2) (n := 5) (by omega)
  have hb := Bk.lowN_lt (x := a3) (n := 3) (by omega)
  have he := Bk.lowN_lt (x := a4) (n := 5) (by omega)
  obtain ⟨b, hbq⟩ : ∃ b, b = Bk.lowN a3 3 := ⟨_, rfl⟩
  rw [← hbq] at hb
  have HBQ := Lib.hid hbq
  clear hbq
  replace hb : b < 3 := by omega
  obtain ⟨tw, tw2, tw3⟩ := Bk.nm5_at (Bk.lowN a1 5) (by omega)
  obtain ⟨tt, tt2, tt3⟩ := Bk.tg5_at (Bk.lowN a2 5) (by omega)
  obtain ⟨te, te2⟩ := Bk.en5_at (Bk.lowN a4 5) (by omega)
  have HR := Bk.okR_of (Bk.two_yes (Bk.lowN a1 5) (by omega) (Bk.lowN a2 5) (by omega) b hb (Bk.lowN a4 5) (by omega))
  obtain ⟨x9, y9, HR3⟩ := Bk.errR_of (Bk.two_err (Bk.lowN a1 5) (by omega) (Bk.lowN a2 5) (by omega) b hb)
  obtain ⟨W, hW⟩ : ∃ W, W = Bk.nm5.getD (Bk.lowN a1 5) ByteArray.empty := ⟨_, rfl⟩
  obtain ⟨T, hT⟩ : ∃ T, T = Bk.tg5.getD (Bk.lowN a2 5) ByteArray.empty := ⟨_, rfl⟩
  obtain ⟨E, hE⟩ : ∃ E, E = Bk.en5.getD (Bk.lowN a4 5) ByteArray.empty := ⟨_, rfl⟩
  simp only [← hW, ← hT, ← hE] at tw tw2 tw3 tt tt2 tt3 te te2 HR HR3
  clear hW hT hE
  have hsz : 1 ≤ ((⟨#[38]⟩ ++ W ++ Bk.manyS 32 (1 + b) ++ T) : ByteArray).size ∧ ((⟨#[38]⟩ ++ W ++ Bk.manyS 32 (1 + b) ++ T) : ByteArray).size ≤ 20 := by rw [Bk.size_app, Bk.size_app, Bk.size_app, Bk.manyS_size]; have q : ({ data := #[38] } : ByteArray).size = 1 := rfl; omega
  have hne := Bk.not_empty hsz.1
  have hz1 : ((⟨#[38]⟩ ++ W ++ Bk.manyS 32 (1 + b) ++ T) ++ E : ByteArray).size ≤ 4611686018427387903 := by rw [Bk.size_app]; omega
  have hz2 : ((⟨#[38]⟩ ++ W ++ Bk.manyS 32 (1 + b) ++ T) ++ ⟨#[32, 38, 113, 32, 33, 113, 32, 33, 113]⟩ : ByteArray).size ≤ 4611686018427387903 := by rw [Bk.size_app]; have q : ({ data := #[32, 38, 113, 32, 33, 113, 32, 33, 113] } : ByteArray).size = 9 := rfl; omega
  have HRT := Lib.hid HR.1
  have HRF := Lib.hid HR.2
  have HR3 := Lib.hid HR3
  clear HR
  have q1 : ({ data := #[38] } : ByteArray).size ≤ 1 := by decide
  have q2 := Bk.manyS_size 32 (1 + b)
  have q3 : ({ data := #[32, 38, 113, 32, 33, 113, 32, 33, 113] } : ByteArray).size ≤ 9 := by decide
  have q4 := Bk.size_app ⟨#[38]⟩ W
  have q5 := Bk.size_app (⟨#[38]⟩ ++ W) (Bk.manyS 32 (1 + b))
  have q6 := Bk.size_app (⟨#[38]⟩ ++ W ++ Bk.manyS 32 (1 + b)) T
  have q7 := Bk.size_app T (Bk.manyS 32 (1 + b))
  have q8 := Bk.size_app (T ++ Bk.manyS 32 (1 + b)) (⟨#[38]⟩ ++ W)
  have EB : Hid (((1 : Int) + (b : Int)).toNat = 1 + b) := Lib.hid (by omega)
  go_enter Try.func11, Try.ntmps11
  go_wp2_with first
    | (go_at_call 32; with_reducible refine (low_any a1 5 _ (by omega) (by omega)).mono ?_; rintro e w' ⟨rfl, rfl⟩)
    | (go_at_call 32; with_reducible refine (low_any a2 5 _ (by omega) (by omega)).mono ?_; rintro e w' ⟨rfl, rfl⟩)
    | (go_at_call 32; with_reducible refine (low_any a3 3 _ (by omega) (by omega)).mono ?_; rintro e w' ⟨rfl, rfl⟩; rw [← HBQ.out])
    | (go_at_call 32; with_reducible refine (low_any a4 5 _ (by omega) (by omega)).mono ?_; rintro e w' ⟨rfl, rfl⟩)
    | (go_at_call 49; refine (blanks_any _ _ (by omega)).mono ?_; rintro e w' ⟨rfl, rfl⟩; rw [EB.out])
  go_loopw [23] (fun i wr => ∃ k : Nat, k ≤ 2 ∧ i = .int .i64 k ∧ Hid (Below w.heap.size w wr)) (fun i _ => 2 - (intOf i).toNat)
  case atStart => exact ⟨0, by omega, rfl, Lib.hid (by go_grown)⟩
  case round =>
    obtain ⟨k, hk, rfl, HB⟩ := hrel
    rcases (by omega : k = 0 ∨ k = 1 ∨ k = 2) with rfl | rfl | rfl
    · go_wp2_with (go_at_call 52; refine (read_any _ _ _ _ hz1 (by decide)).mono ?_; rintro e w' ⟨rfl, hg⟩; rw [HRF.out]; unfold back4i; have HG := Lib.hid (HB.out.trans (hg.mono HB.out.size)); clear hg)
      go_roundw
      case rel => exact ⟨1, by omega, rfl, HG⟩
      case measure => simp [intOf]
    · go_wp2_with (go_at_call 52; refine (read_any _ _ _ _ hz1 (by decide)).mono ?_; rintro e w' ⟨rfl, hg⟩; rw [HRT.out]; unfold back4i; have HG := Lib.hid (HB.out.trans (hg.mono HB.out.size)); clear hg)
      go_roundw
      case rel => exact ⟨2, by omega, rfl, HG⟩
      case measure => simp [intOf]
    · go_wp2_with first
        | (go_at_call 52; refine (read_any _ _ _ _ hz2 (by decide)).mono ?_; rintro e w' ⟨rfl, hg⟩; rw [HR3.out]; unfold back4i; have HG := Lib.hid (HB.out.trans (hg.mono HB.out.size)); clear hg)
        | (go_at_call 50; refine (awake14 _).mono ?_; rintro e w' ⟨rfl, hg⟩; have HG3 := Lib.hid (HG.out.trans (hg.mono HG.out.size)); clear hg)
      go_ret
      exact ⟨rfl, HG3.out⟩
set_option maxRecDepth 20000 in
set_option maxHeartbeats 3200000 in
theorem both_111 (a1 a2 a3 a4 : Int) (w : World) :
    Calls Try.prog 11 #[.int .i64 a1, .int .i64 a2, .bool true, .bool true, .bool true, .int .i64 a3, .int .i64 a4] w fun e w' => e = .returned (.bool true) ∧ Below w.heap.size w w' := by
  have hi := Bk.lowN_lt (x := a1) (n := 5) (by omega)
  have hj := Bk.lowN_lt (x := a2) (n := 5) (by omega)
  have hb := Bk.lowN_lt (x := a3) (n := 3) (by omega)
  have he := Bk.lowN_lt (x := a4) (n := 5) (by omega)
  obtain ⟨b, hbq⟩ : ∃ b, b = Bk.lowN a3 3 := ⟨_, rfl⟩
  rw [← hbq] at hb
  have HBQ := Lib.hid hbq
  clear hbq
  replace hb : b < 3 := by omega
  obtain ⟨tw, tw2, tw3⟩ := Bk.nm5_at (Bk.lowN a1 5) (by omega)
  obtain ⟨tt, tt2, tt3⟩ := Bk.tg5_at (Bk.lowN a2 5) (by omega)
  obtain ⟨te, te2⟩ := Bk.en5_at (Bk.lowN a4 5) (by omega)
  have HR := Bk.okR_of (Bk.two_yes2 (Bk.lowN a1 5) (by omega) (Bk.lowN a2 5) (by omega) b hb (Bk.lowN a4 5) (by omega))
  obtain ⟨x9, y9, HR3⟩ := Bk.errR_of (Bk.two_err2 (Bk.lowN a1 5) (by omega) (Bk.lowN a2 5) (by omega) b hb)
  obtain ⟨W, hW⟩ : ∃ W, W = Bk.nm5.getD (Bk.lowN a1 5) ByteArray.empty := ⟨_, rfl⟩
  obtain ⟨T, hT⟩ : ∃ T, T = Bk.tg5.getD (Bk.lowN a2 5) ByteArray.empty := ⟨_, rfl⟩
  obtain ⟨E, hE⟩ : ∃ E, E = Bk.en5.getD (Bk.lowN a4 5) ByteArray.empty := ⟨_, rfl⟩
  simp only [← hW, ← hT, ← hE] at tw tw2 tw3 tt tt2 tt3 te te2 HR HR3
  clear hW hT hE
  have hsz : 1 ≤ ((T ++ Bk.manyS 32 (1 + b) ++ (⟨#[38]⟩ ++ W)) : ByteArray).size ∧ ((T ++ Bk.manyS 32 (1 + b) ++ (⟨#[38]⟩ ++ W)) : ByteArray).size ≤ 20 := by rw [Bk.size_app, Bk.size_app, Bk.size_app, Bk.manyS_size]; have q : ({ data := #[38] } : ByteArray).size = 1 := rfl; omega
  have hne := Bk.not_empty hsz.1
  have hz1 : ((T ++ Bk.manyS 32 (1 + b) ++ (⟨#[38]⟩ ++ W)) ++ E : ByteArray).size ≤ 4611686018427387903 := by rw [Bk.size_app]; omega
  have hz2 : ((T ++ Bk.manyS 32 (1 + b) ++ (⟨#[38]⟩ ++ W)) ++ ⟨#[32, 38, 113, 32, 33, 113, 32, 33, 113]⟩ : ByteArray).size ≤ 4611686018427387903 := by rw [Bk.size_app]; have q : ({ data := #[32, 38, 113, 32, 33, 113, 32, 33, 113] } : ByteArray).size = 9 := rfl; omega
  have HRT := Lib.hid HR.1
  have HRF := Lib.hid HR.2
  have HR3 := Lib.hid HR3
  clear HR
  have q1 : ({ data := #[38] } : ByteArray).size ≤ 1 := by decide
  have q2 := Bk.manyS_size 32 (1 + b)
  have q3 : ({ data := #[32, 38, 113, 32, 33, 113, 32, 33, 113] } : ByteArray).size ≤ 9 := by decide
  have q4 := Bk.size_app ⟨#[38]⟩ W
  have q5 := Bk.size_app (⟨#[38]⟩ ++ W) (Bk.manyS 32 (1 + b))
  have q6 := Bk.size_app (⟨#[38]⟩ ++ W ++ Bk.manyS 32 (1 + b)) T
  have q7 := Bk.size_app T (Bk.manyS 32 (1 + b))
  have q8 := Bk.size_app (T ++ Bk.manyS 32 (1 + b)) (⟨#[38]⟩ ++ W)
  have EB : Hid (((1 : Int) + (b : Int)).toNat = 1 + b) := Lib.hid (by omega)
  go_enter Try.func11, Try.ntmps11
  go_wp2_with first
    | (go_at_call 32; with_reducible refine (low_any a1 5 _ (by omega) (by omega)).mono ?_; rintro e w' ⟨rfl, rfl⟩)
    | (go_at_call 32; with_reducible refine (low_any a2 5 _ (by omega) (by omega)).mono ?_; rintro e w' ⟨rfl, rfl⟩)
    | (go_at_call 32; with_reducible refine (low_any a3 3 _ (by omega) (by omega)).mono ?_; rintro e w' ⟨rfl, rfl⟩; rw [← HBQ.out])
    | (go_at_call 32; with_reducible refine (low_any a4 5 _ (by omega) (by omega)).mono ?_; rintro e w' ⟨rfl, rfl⟩)
    | (go_at_call 49; refine (blanks_any _ _ (by omega)).mono ?_; rintro e w' ⟨rfl, rfl⟩; rw [EB.out])
  go_loopw [23] (fun i wr => ∃ k : Nat, k ≤ 2 ∧ i = .int .i64 k ∧ Hid (Below w.heap.size w wr)) (fun i _ => 2 - (intOf i).toNat)
  case atStart => exact ⟨0, by omega, rfl, Lib.hid (by go_grown)⟩
  case round =>
    obtain ⟨k, hk, rfl, HB⟩ := hrel
    rcases (by omega : k = 0 ∨ k = 1 ∨ k = 2) with rfl | rfl | rfl
    · go_wp2_with (go_at_call 52; refine (read_any _ _ _ _ hz1 (by decide)).mono ?_; rintro e w' ⟨rfl, hg⟩; rw [HRF.out]; unfold back4i; have HG := Lib.hid (HB.out.trans (hg.mono HB.out.size)); clear hg)
      go_roundw
      case rel => exact ⟨1, by omega, rfl, HG⟩
      case measure => simp [intOf]
    · go_wp2_with (go_at_call 52; refine (read_any _ _ _ _ hz1 (by decide)).mono ?_; rintro e w' ⟨rfl, hg⟩; rw [HRT.out]; unfold back4i; have HG := Lib.hid (HB.out.trans (hg.mono HB.out.size)); clear hg)
      go_roundw
      case rel => exact ⟨2, by omega, rfl, HG⟩
      case measure => simp [intOf]
    · go_wp2_with first
        | (go_at_call 52; refine (read_any _ _ _ _ hz2 (by decide)).mono ?_; rintro e w' ⟨rfl, hg⟩; rw [HR3.out]; unfold back4i; have HG := Lib.hid (HB.out.trans (hg.mono HB.out.size)); clear hg)
        | (go_at_call 50; refine (awake14 _).mono ?_; rintro e w' ⟨rfl, hg⟩; have HG3 := Lib.hid (HG.out.trans (hg.mono HG.out.size)); clear hg)
      go_ret
      exact ⟨rfl, HG3.out⟩
set_option maxRecDepth 20000 in
set_option maxHeartbeats 3200000 in
theorem both_100 (a1 a2 a3 a4 : Int) (w : World) :
    Calls Try.prog 11 #[.int .i64 a1, .int .i64 a2, .bool true, .bool false, .bool false, .int .i64 a3, .int .i64 a4] w fun e w' => e = .returned (.bool true) ∧ Below w.heap.size w w' := by
  have hi := Bk.lowN_lt (x := a1) (n := 5) (by omega)
  have hj := Bk.lowN_lt (x := a2) (n := 5) (by omega)
  have hb := Bk.lowN_lt (x := a3) (n := 3) (by omega)
  have he := Bk.lowN_lt (x := a4) (n := 5) (by omega)
  obtain ⟨b, hbq⟩ : ∃ b, b = Bk.lowN a3 3 := ⟨_, rfl⟩
  rw [← hbq] at hb
  have HBQ := Lib.hid hbq
  clear hbq
  replace hb : b < 3 := by omega
  obtain ⟨tw, tw2, tw3⟩ := Bk.nm5_at (Bk.lowN a1 5) (by omega)
  obtain ⟨tt, tt2, tt3⟩ := Bk.tg5_at (Bk.lowN a2 5) (by omega)
  obtain ⟨te, te2⟩ := Bk.en5_at (Bk.lowN a4 5) (by omega)
  have HR := Bk.okR_of (Bk.one_yes (Bk.lowN a1 5) (by omega) (Bk.lowN a4 5) (by omega))
  obtain ⟨x9, y9, HR3⟩ := Bk.errR_of (Bk.one_err (Bk.lowN a1 5) (by omega))
  obtain ⟨W, hW⟩ : ∃ W, W = Bk.nm5.getD (Bk.lowN a1 5) ByteArray.empty := ⟨_, rfl⟩
  obtain ⟨T, hT⟩ : ∃ T, T = Bk.tg5.getD (Bk.lowN a2 5) ByteArray.empty := ⟨_, rfl⟩
  obtain ⟨E, hE⟩ : ∃ E, E = Bk.en5.getD (Bk.lowN a4 5) ByteArray.empty := ⟨_, rfl⟩
  simp only [← hW, ← hT, ← hE] at tw tw2 tw3 tt tt2 tt3 te te2 HR HR3
  clear hW hT hE
  have hsz : 1 ≤ ((⟨#[38]⟩ ++ W) : ByteArray).size ∧ ((⟨#[38]⟩ ++ W) : ByteArray).size ≤ 20 := by rw [Bk.size_app]; have q : ({ data := #[38] } : ByteArray).size = 1 := rfl; omega
  have hne := Bk.not_empty hsz.1
  have hz1 : ((⟨#[38]⟩ ++ W) ++ E : ByteArray).size ≤ 4611686018427387903 := by rw [Bk.size_app]; omega
  have hz2 : ((⟨#[38]⟩ ++ W) ++ ⟨#[32, 38, 113, 32, 33, 113, 32, 33, 113]⟩ : ByteArray).size ≤ 4611686018427387903 := by rw [Bk.size_app]; have q : ({ data := #[32, 38, 113, 32, 33, 113, 32, 33, 113] } : ByteArray).size = 9 := rfl; omega
  have HRT := Lib.hid HR.1
  have HRF := Lib.hid HR.2
  have HR3 := Lib.hid HR3
  clear HR
  have q1 : ({ data := #[38] } : ByteArray).size ≤ 1 := by decide
  have q2 := Bk.manyS_size 32 (1 + b)
  have q3 : ({ data := #[32, 38, 113, 32, 33, 113, 32, 33, 113] } : ByteArray).size ≤ 9 := by decide
  have q4 := Bk.size_app ⟨#[38]⟩ W
  have q5 := Bk.size_app (⟨#[38]⟩ ++ W) (Bk.manyS 32 (1 + b))
  have q6 := Bk.size_app (⟨#[38]⟩ ++ W ++ Bk.manyS 32 (1 + b)) T
  have q7 := Bk.size_app T (Bk.manyS 32 (1 + b))
  have q8 := Bk.size_app (T ++ Bk.manyS 32 (1 + b)) (⟨#[38]⟩ ++ W)
  have EB : Hid (((1 : Int) + (b : Int)).toNat = 1 + b) := Lib.hid (by omega)
  go_enter Try.func11, Try.ntmps11
  go_wp2_with first
    | (go_at_call 32; with_reducible refine (low_any a1 5 _ (by omega) (by omega)).mono ?_; rintro e w' ⟨rfl, rfl⟩)
    | (go_at_call 32; with_reducible refine (low_any a2 5 _ (by omega) (by omega)).mono ?_; rintro e w' ⟨rfl, rfl⟩)
    | (go_at_call 32; with_reducible refine (low_any a3 3 _ (by omega) (by omega)).mono ?_; rintro e w' ⟨rfl, rfl⟩; rw [← HBQ.out])
    | (go_at_call 32; with_reducible refine (low_any a4 5 _ (by omega) (by omega)).mono ?_; rintro e w' ⟨rfl, rfl⟩)
    | (go_at_call 49; refine (blanks_any _ _ (by omega)).mono ?_; rintro e w' ⟨rfl, rfl⟩; rw [EB.out])
  go_loopw [23] (fun i wr => ∃ k : Nat, k ≤ 2 ∧ i = .int .i64 k ∧ Hid (Below w.heap.size w wr)) (fun i _ => 2 - (intOf i).toNat)
  case atStart => exact ⟨0, by omega, rfl, Lib.hid (by go_grown)⟩
  case round =>
    obtain ⟨k, hk, rfl, HB⟩ := hrel
    rcases (by omega : k = 0 ∨ k = 1 ∨ k = 2) with rfl | rfl | rfl
    · go_wp2_with (go_at_call 52; refine (read_any _ _ _ _ hz1 (by decide)).mono ?_; rintro e w' ⟨rfl, hg⟩; rw [HRF.out]; unfold back4i; have HG := Lib.hid (HB.out.trans (hg.mono HB.out.size)); clear hg)
      go_roundw
      case rel => exact ⟨1, by omega, rfl, HG⟩
      case measure => simp [intOf]
    · go_wp2_with (go_at_call 52; refine (read_any _ _ _ _ hz1 (by decide)).mono ?_; rintro e w' ⟨rfl, hg⟩; rw [HRT.out]; unfold back4i; have HG := Lib.hid (HB.out.trans (hg.mono HB.out.size)); clear hg)
      go_roundw
      case rel => exact ⟨2, by omega, rfl, HG⟩
      case measure => simp [intOf]
    · go_wp2_with first
        | (go_at_call 52; refine (read_any _ _ _ _ hz2 (by decide)).mono ?_; rintro e w' ⟨rfl, hg⟩; rw [HR3.out]; unfold back4i; have HG := Lib.hid (HB.out.trans (hg.mono HB.out.size)); clear hg)
        | (go_at_call 50; refine (awake14 _).mono ?_; rintro e w' ⟨rfl, hg⟩; have HG3 := Lib.hid (HG.out.trans (hg.mono HG.out.size)); clear hg)
      go_ret
      exact ⟨rfl, HG3.out⟩
set_option maxRecDepth 20000 in
set_option maxHeartbeats 3200000 in
theorem both_101 (a1 a2 a3 a4 : Int) (w : World) :
    Calls Try.prog 11 #[.int .i64 a1, .int .i64 a2, .bool true, .bool false, .bool true, .int .i64 a3, .int .i64 a4] w fun e w' => e = .returned (.bool true) ∧ Below w.heap.size w w' := by
  have hi := Bk.lowN_lt (x := a1) (n := 5) (by omega)
  have hj := Bk.lowN_lt (x := a2) (n := 5) (by omega)
  have hb := Bk.lowN_lt (x := a3) (n := 3) (by omega)
  have he := Bk.lowN_lt (x := a4) (n := 5) (by omega)
  obtain ⟨b, hbq⟩ : ∃ b, b = Bk.lowN a3 3 := ⟨_, rfl⟩
  rw [← hbq] at hb
  have HBQ := Lib.hid hbq
  clear hbq
  replace hb : b < 3 := by omega
  obtain ⟨tw, tw2, tw3⟩ := Bk.nm5_at (Bk.lowN a1 5) (by omega)
  obtain ⟨tt, tt2, tt3⟩ := Bk.tg5_at (Bk.lowN a2 5) (by omega)
  obtain ⟨te, te2⟩ := Bk.en5_at (Bk.lowN a4 5) (by omega)
  have HR := Bk.okR_of (Bk.one_yes (Bk.lowN a1 5) (by omega) (Bk.lowN a4 5) (by omega))
  obtain ⟨x9, y9, HR3⟩ := Bk.errR_of (Bk.one_err (Bk.lowN a1 5) (by omega))
  obtain ⟨W, hW⟩ : ∃ W, W = Bk.nm5.getD (Bk.lowN a1 5) ByteArray.empty := ⟨_, rfl⟩
  obtain ⟨T, hT⟩ : ∃ T, T = Bk.tg5.getD (Bk.lowN a2 5) ByteArray.empty := ⟨_, rfl⟩
  obtain ⟨E, hE⟩ : ∃ E, E = Bk.en5.getD (Bk.lowN a4 5) ByteArray.empty := ⟨_, rfl⟩
  simp only [← hW, ← hT, ← hE] at tw tw2 tw3 tt tt2 tt3 te te2 HR HR3
  clear hW hT hE
  have hsz : 1 ≤ ((⟨#[38]⟩ ++ W) : ByteArray).size ∧ ((⟨#[38]⟩ ++ W) : ByteArray).size ≤ 20 := by rw [Bk.size_app]; have q : ({ data := #[38] } : ByteArray).size = 1 := rfl; omega
  have hne := Bk.not_empty hsz.1
  have hz1 : ((⟨#[38]⟩ ++ W) ++ E : ByteArray).size ≤ 4611686018427387903 := by rw [Bk.size_app]; omega
  have hz2 : ((⟨#[38]⟩ ++ W) ++ ⟨#[32, 38, 113, 32, 33, 113, 32, 33, 113]⟩ : ByteArray).size ≤ 4611686018427387903 := by rw [Bk.size_app]; have q : ({ data := #[32, 38, 113, 32, 33, 113, 32, 33, 113] } : ByteArray).size = 9 := rfl; omega
  have HRT := Lib.hid HR.1
  have HRF := Lib.hid HR.2
  have HR3 := Lib.hid HR3
  clear HR
  have q1 : ({ data := #[38] } : ByteArray).size ≤ 1 := by decide
  have q2 := Bk.manyS_size 32 (1 + b)
  have q3 : ({ data := #[32, 38, 113, 32, 33, 113, 32, 33, 113] } : ByteArray).size ≤ 9 := by decide
  have q4 := Bk.size_app ⟨#[38]⟩ W
  have q5 := Bk.size_app (⟨#[38]⟩ ++ W) (Bk.manyS 32 (1 + b))
  have q6 := Bk.size_app (⟨#[38]⟩ ++ W ++ Bk.manyS 32 (1 + b)) T
  have q7 := Bk.size_app T (Bk.manyS 32 (1 + b))
  have q8 := Bk.size_app (T ++ Bk.manyS 32 (1 + b)) (⟨#[38]⟩ ++ W)
  have EB : Hid (((1 : Int) + (b : Int)).toNat = 1 + b) := Lib.hid (by omega)
  go_enter Try.func11, Try.ntmps11
  go_wp2_with first
    | (go_at_call 32; with_reducible refine (low_any a1 5 _ (by omega) (by omega)).mono ?_; rintro e w' ⟨rfl, rfl⟩)
    | (go_at_call 32; with_reducible refine (low_any a2 5 _ (by omega) (by omega)).mono ?_; rintro e w' ⟨rfl, rfl⟩)
    | (go_at_call 32; with_reducible refine (low_any a3 3 _ (by omega) (by omega)).mono ?_; rintro e w' ⟨rfl, rfl⟩; rw [← HBQ.out])
    | (go_at_call 32; with_reducible refine (low_any a4 5 _ (by omega) (by omega)).mono ?_; rintro e w' ⟨rfl, rfl⟩)
    | (go_at_call 49; refine (blanks_any _ _ (by omega)).mono ?_; rintro e w' ⟨rfl, rfl⟩; rw [EB.out])
  go_loopw [23] (fun i wr => ∃ k : Nat, k ≤ 2 ∧ i = .int .i64 k ∧ Hid (Below w.heap.size w wr)) (fun i _ => 2 - (intOf i).toNat)
  case atStart => exact ⟨0, by omega, rfl, Lib.hid (by go_grown)⟩
  case round =>
    obtain ⟨k, hk, rfl, HB⟩ := hrel
    rcases (by omega : k = 0 ∨ k = 1 ∨ k = 2) with rfl | rfl | rfl
    · go_wp2_with (go_at_call 52; refine (read_any _ _ _ _ hz1 (by decide)).mono ?_; rintro e w' ⟨rfl, hg⟩; rw [HRF.out]; unfold back4i; have HG := Lib.hid (HB.out.trans (hg.mono HB.out.size)); clear hg)
      go_roundw
      case rel => exact ⟨1, by omega, rfl, HG⟩
      case measure => simp [intOf]
    · go_wp2_with (go_at_call 52; refine (read_any _ _ _ _ hz1 (by decide)).mono ?_; rintro e w' ⟨rfl, hg⟩; rw [HRT.out]; unfold back4i; have HG := Lib.hid (HB.out.trans (hg.mono HB.out.size)); clear hg)
      go_roundw
      case rel => exact ⟨2, by omega, rfl, HG⟩
      case measure => simp [intOf]
    · go_wp2_with first
        | (go_at_call 52; refine (read_any _ _ _ _ hz2 (by decide)).mono ?_; rintro e w' ⟨rfl, hg⟩; rw [HR3.out]; unfold back4i; have HG := Lib.hid (HB.out.trans (hg.mono HB.out.size)); clear hg)
        | (go_at_call 50; refine (awake14 _).mono ?_; rintro e w' ⟨rfl, hg⟩; have HG3 := Lib.hid (HG.out.trans (hg.mono HG.out.size)); clear hg)
      go_ret
      exact ⟨rfl, HG3.out⟩
set_option maxRecDepth 20000 in
set_option maxHeartbeats 3200000 in
theorem both_010 (a1 a2 a3 a4 : Int) (w : World) :
    Calls Try.prog 11 #[.int .i64 a1, .int .i64 a2, .bool false, .bool true, .bool false, .int .i64 a3, .int .i64 a4] w fun e w' => e = .returned (.bool true) ∧ Below w.heap.size w w' := by
  have hi := Bk.lowN_lt (x := a1) (n := 5) (by omega)
  have hj := Bk.lowN_lt (x := a2) (n := 5) (by omega)
  have hb := Bk.lowN_lt (x := a3) (n := 3) (by omega)
  have he := Bk.lowN_lt (x := a4) (n := 5) (by omega)
  obtain ⟨b, hbq⟩ : ∃ b, b = Bk.lowN a3 3 := ⟨_, rfl⟩
  rw [← hbq] at hb
  have HBQ := Lib.hid hbq
  clear hbq
  replace hb : b < 3 := by omega
  obtain ⟨tw, tw2, tw3⟩ := Bk.nm5_at (Bk.lowN a1 5) (by omega)
  obtain ⟨tt, tt2, tt3⟩ := Bk.tg5_at (Bk.lowN a2 5) (by omega)
  obtain ⟨te, te2⟩ := Bk.en5_at (Bk.lowN a4 5) (by omega)
  have HR := Bk.okR_of (Bk.tag_yes (Bk.lowN a2 5) (by omega) (Bk.lowN a4 5) (by omega))
  obtain ⟨x9, y9, HR3⟩ := Bk.errR_of (Bk.tag_err (Bk.lowN a2 5) (by omega))
  obtain ⟨W, hW⟩ : ∃ W, W = Bk.nm5.getD (Bk.lowN a1 5) ByteArray.empty := ⟨_, rfl⟩
  obtain ⟨T, hT⟩ : ∃ T, T = Bk.tg5.getD (Bk.lowN a2 5) ByteArray.empty := ⟨_, rfl⟩
  obtain ⟨E, hE⟩ : ∃ E, E = Bk.en5.getD (Bk.lowN a4 5) ByteArray.empty := ⟨_, rfl⟩
  simp only [← hW, ← hT, ← hE] at tw tw2 tw3 tt tt2 tt3 te te2 HR HR3
  clear hW hT hE
  have hsz : 1 ≤ (T : ByteArray).size ∧ (T : ByteArray).size ≤ 20 := by omega
  have hne := Bk.not_empty hsz.1
  have hz1 : (T ++ E : ByteArray).size ≤ 4611686018427387903 := by rw [Bk.size_app]; omega
  have hz2 : (T ++ ⟨#[32, 38, 113, 32, 33, 113, 32, 33, 113]⟩ : ByteArray).size ≤ 4611686018427387903 := by rw [Bk.size_app]; have q : ({ data := #[32, 38, 113, 32, 33, 113, 32, 33, 113] } : ByteArray).size = 9 := rfl; omega
  have HRT := Lib.hid HR.1
  have HRF := Lib.hid HR.2
  have HR3 := Lib.hid HR3
  clear HR
  have q1 : ({ data := #[38] } : ByteArray).size ≤ 1 := by decide
  have q2 := Bk.manyS_size 32 (1 + b)
  have q3 : ({ data := #[32, 38, 113, 32, 33, 113, 32, 33, 113] } : ByteArray).size ≤ 9 := by decide
  have q4 := Bk.size_app ⟨#[38]⟩ W
  have q5 := Bk.size_app (⟨#[38]⟩ ++ W) (Bk.manyS 32 (1 + b))
  have q6 := Bk.size_app (⟨#[38]⟩ ++ W ++ Bk.manyS 32 (1 + b)) T
  have q7 := Bk.size_app T (Bk.manyS 32 (1 + b))
  have q8 := Bk.size_app (T ++ Bk.manyS 32 (1 + b)) (⟨#[38]⟩ ++ W)
  have EB : Hid (((1 : Int) + (b : Int)).toNat = 1 + b) := Lib.hid (by omega)
  go_enter Try.func11, Try.ntmps11
  go_wp2_with first
    | (go_at_call 32; with_reducible refine (low_any a1 5 _ (by omega) (by omega)).mono ?_; rintro e w' ⟨rfl, rfl⟩)
    | (go_at_call 32; with_reducible refine (low_any a2 5 _ (by omega) (by omega)).mono ?_; rintro e w' ⟨rfl, rfl⟩)
    | (go_at_call 32; with_reducible refine (low_any a3 3 _ (by omega) (by omega)).mono ?_; rintro e w' ⟨rfl, rfl⟩; rw [← HBQ.out])
    | (go_at_call 32; with_reducible refine (low_any a4 5 _ (by omega) (by omega)).mono ?_; rintro e w' ⟨rfl, rfl⟩)
    | (go_at_call 49; refine (blanks_any _ _ (by omega)).mono ?_; rintro e w' ⟨rfl, rfl⟩; rw [EB.out])
  go_loopw [23] (fun i wr => ∃ k : Nat, k ≤ 2 ∧ i = .int .i64 k ∧ Hid (Below w.heap.size w wr)) (fun i _ => 2 - (intOf i).toNat)
  case atStart => exact ⟨0, by omega, rfl, Lib.hid (by go_grown)⟩
  case round =>
    obtain ⟨k, hk, rfl, HB⟩ := hrel
    rcases (by omega : k = 0 ∨ k = 1 ∨ k = 2) with rfl | rfl | rfl
    · go_wp2_with (go_at_call 52; refine (read_any _ _ _ _ hz1 (by decide)).mono ?_; rintro e w' ⟨rfl, hg⟩; rw [HRF.out]; unfold back4i; have HG := Lib.hid (HB.out.trans (hg.mono HB.out.size)); clear hg)
      go_roundw
      case rel => exact ⟨1, by omega, rfl, HG⟩
      case measure => simp [intOf]
    · go_wp2_with (go_at_call 52; refine (read_any _ _ _ _ hz1 (by decide)).mono ?_; rintro e w' ⟨rfl, hg⟩; rw [HRT.out]; unfold back4i; have HG := Lib.hid (HB.out.trans (hg.mono HB.out.size)); clear hg)
      go_roundw
      case rel => exact ⟨2, by omega, rfl, HG⟩
      case measure => simp [intOf]
    · go_wp2_with first
        | (go_at_call 52; refine (read_any _ _ _ _ hz2 (by decide)).mono ?_; rintro e w' ⟨rfl, hg⟩; rw [HR3.out]; unfold back4i; have HG := Lib.hid (HB.out.trans (hg.mono HB.out.size)); clear hg)
        | (go_at_call 50; refine (awake14 _).mono ?_; rintro e w' ⟨rfl, hg⟩; have HG3 := Lib.hid (HG.out.trans (hg.mono HG.out.size)); clear hg)
      go_ret
      exact ⟨rfl, HG3.out⟩
set_option maxRecDepth 20000 in
set_option maxHeartbeats 3200000 in
theorem both_011 (a1 a2 a3 a4 : Int) (w : World) :
    Calls Try.prog 11 #[.int .i64 a1, .int .i64 a2, .bool false, .bool true, .bool true, .int .i64 a3, .int .i64 a4] w fun e w' => e = .returned (.bool true) ∧ Below w.heap.size w w' := by
  have hi := Bk.lowN_lt (x := a1) (n := 5) (by omega)
  have hj := Bk.lowN_lt (x := a2) (n := 5) (by omega)
  have hb := Bk.lowN_lt (x := a3) (n := 3) (by omega)
  have he := Bk.lowN_lt (x := a4) (n := 5) (by omega)
  obtain ⟨b, hbq⟩ : ∃ b, b = Bk.lowN a3 3 := ⟨_, rfl⟩
  rw [← hbq] at hb
  have HBQ := Lib.hid hbq
  clear hbq
  replace hb : b < 3 := by omega
  obtain ⟨tw, tw2, tw3⟩ := Bk.nm5_at (Bk.lowN a1 5) (by omega)
  obtain ⟨tt, tt2, tt3⟩ := Bk.tg5_at (Bk.lowN a2 5) (by omega)
  obtain ⟨te, te2⟩ := Bk.en5_at (Bk.lowN a4 5) (by omega)
  have HR := Bk.okR_of (Bk.tag_yes (Bk.lowN a2 5) (by omega) (Bk.lowN a4 5) (by omega))
  obtain ⟨x9, y9, HR3⟩ := Bk.errR_of (Bk.tag_err (Bk.lowN a2 5) (by omega))
  obtain ⟨W, hW⟩ : ∃ W, W = Bk.nm5.getD (Bk.lowN a1 5) ByteArray.empty := ⟨_, rfl⟩
  obtain ⟨T, hT⟩ : ∃ T, T = Bk.tg5.getD (Bk.lowN a2 5) ByteArray.empty := ⟨_, rfl⟩
  obtain ⟨E, hE⟩ : ∃ E, E = Bk.en5.getD (Bk.lowN a4 5) ByteArray.empty := ⟨_, rfl⟩
  simp only [← hW, ← hT, ← hE] at tw tw2 tw3 tt tt2 tt3 te te2 HR HR3
  clear hW hT hE
  have hsz : 1 ≤ (T : ByteArray).size ∧ (T : ByteArray).size ≤ 20 := by omega
  have hne := Bk.not_empty hsz.1
  have hz1 : (T ++ E : ByteArray).size ≤ 4611686018427387903 := by rw [Bk.size_app]; omega
  have hz2 : (T ++ ⟨#[32, 38, 113, 32, 33, 113, 32, 33, 113]⟩ : ByteArray).size ≤ 4611686018427387903 := by rw [Bk.size_app]; have q : ({ data := #[32, 38, 113, 32, 33, 113, 32, 33, 113] } : ByteArray).size = 9 := rfl; omega
  have HRT := Lib.hid HR.1
  have HRF := Lib.hid HR.2
  have HR3 := Lib.hid HR3
  clear HR
  have q1 : ({ data := #[38] } : ByteArray).size ≤ 1 := by decide
  have q2 := Bk.manyS_size 32 (1 + b)
  have q3 : ({ data := #[32, 38, 113, 32, 33, 113, 32, 33, 113] } : ByteArray).size ≤ 9 := by decide
  have q4 := Bk.size_app ⟨#[38]⟩ W
  have q5 := Bk.size_app (⟨#[38]⟩ ++ W) (Bk.manyS 32 (1 + b))
  have q6 := Bk.size_app (⟨#[38]⟩ ++ W ++ Bk.manyS 32 (1 + b)) T
  have q7 := Bk.size_app T (Bk.manyS 32 (1 + b))
  have q8 := Bk.size_app (T ++ Bk.manyS 32 (1 + b)) (⟨#[38]⟩ ++ W)
  have EB : Hid (((1 : Int) + (b : Int)).toNat = 1 + b) := Lib.hid (by omega)
  go_enter Try.func11, Try.ntmps11
  go_wp2_with first
    | (go_at_call 32; with_reducible refine (low_any a1 5 _ (by omega) (by omega)).mono ?_; rintro e w' ⟨rfl, rfl⟩)
    | (go_at_call 32; with_reducible refine (low_any a2 5 _ (by omega) (by omega)).mono ?_; rintro e w' ⟨rfl, rfl⟩)
    | (go_at_call 32; with_reducible refine (low_any a3 3 _ (by omega) (by omega)).mono ?_; rintro e w' ⟨rfl, rfl⟩; rw [← HBQ.out])
    | (go_at_call 32; with_reducible refine (low_any a4 5 _ (by omega) (by omega)).mono ?_; rintro e w' ⟨rfl, rfl⟩)
    | (go_at_call 49; refine (blanks_any _ _ (by omega)).mono ?_; rintro e w' ⟨rfl, rfl⟩; rw [EB.out])
  go_loopw [23] (fun i wr => ∃ k : Nat, k ≤ 2 ∧ i = .int .i64 k ∧ Hid (Below w.heap.size w wr)) (fun i _ => 2 - (intOf i).toNat)
  case atStart => exact ⟨0, by omega, rfl, Lib.hid (by go_grown)⟩
  case round =>
    obtain ⟨k, hk, rfl, HB⟩ := hrel
    rcases (by omega : k = 0 ∨ k = 1 ∨ k = 2) with rfl | rfl | rfl
    · go_wp2_with (go_at_call 52; refine (read_any _ _ _ _ hz1 (by decide)).mono ?_; rintro e w' ⟨rfl, hg⟩; rw [HRF.out]; unfold back4i; have HG := Lib.hid (HB.out.trans (hg.mono HB.out.size)); clear hg)
      go_roundw
      case rel => exact ⟨1, by omega, rfl, HG⟩
      case measure => simp [intOf]
    · go_wp2_with (go_at_call 52; refine (read_any _ _ _ _ hz1 (by decide)).mono ?_; rintro e w' ⟨rfl, hg⟩; rw [HRT.out]; unfold back4i; have HG := Lib.hid (HB.out.trans (hg.mono HB.out.size)); clear hg)
      go_roundw
      case rel => exact ⟨2, by omega, rfl, HG⟩
      case measure => simp [intOf]
    · go_wp2_with first
        | (go_at_call 52; refine (read_any _ _ _ _ hz2 (by decide)).mono ?_; rintro e w' ⟨rfl, hg⟩; rw [HR3.out]; unfold back4i; have HG := Lib.hid (HB.out.trans (hg.mono HB.out.size)); clear hg)
        | (go_at_call 50; refine (awake14 _).mono ?_; rintro e w' ⟨rfl, hg⟩; have HG3 := Lib.hid (HG.out.trans (hg.mono HG.out.size)); clear hg)
      go_ret
      exact ⟨rfl, HG3.out⟩
end Go.Proofs.Ytmmhpejnfkienaa
