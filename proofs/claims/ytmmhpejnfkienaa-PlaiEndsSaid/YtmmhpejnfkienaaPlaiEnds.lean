/- The law PlaiEnds of chapter 11: its walk. -/
import Derived.Test.YtmmhpejnfkienaaEnds
namespace Go.Proofs.Ytmmhpejnfkienaa
open Go Go.RowKit Go.PlainAid
set_option linter.unusedVariables false
set_option maxRecDepth 20000 in
set_option maxHeartbeats 6400000 in
theorem plaiEnds_walk (x y : Int) (white : Bool) (bh : ByteArray) (w : World) (hs0 : bh.size ≤ maxLen) :
    Calls Try.prog 19 #[.int .i64 x, .int .i64 y, .bool white, .string bh] w fun e w' => e = .returned (.bool true) ∧ Below w.heap.size w w' := by
  unfold maxLen at hs0
  by_cases h20 : bh.size ≤ 20
  · have hi := Bk.lowN_lt (x := x) (n := 10) (by omega)
    have hk := Bk.lowN_lt (x := y) (n := 10) (by omega)
    have hall := Bk.ends_all (Bk.lowN x 10) (by omega) (Bk.lowN y 10) (by omega)
    obtain ⟨ht, htz⟩ := Bk.sg10_at (Bk.lowN y 10) (by omega)
    have hwz := (Bk.wordS_is x).1
    have hwd : Bk.wdAt (Bk.lowN x 10) = Bk.wordS x := rfl
    rw [hwd] at hall
    clear hwd
    obtain ⟨A, hA⟩ : ∃ A, A = Bk.wordS x := ⟨_, rfl⟩
    obtain ⟨S, hS⟩ : ∃ S, S = Bk.sgAt (Bk.lowN y 10) := ⟨_, rfl⟩
    rw [← hS] at hall ht htz
    rw [← hA] at hall hwz
    have HA := Lib.hid hA
    clear hA hS
    obtain ⟨g1, g2, g3, g4, g5, g6⟩ := hall
    have H1 := Lib.hid (Bk.part_pre (b := bh) g1)
    have H2 := Lib.hid (Bk.part_pre (b := bh) g2)
    have H3 : Hid (Bk.lowN y 10 < 3 → Bk.partN (A ++ S ++ bh) 0 false = A.size) := Lib.hid (fun h => Bk.part_pre (b := bh) (g3 h).1)
    have H3' : Hid (Bk.lowN y 10 < 3 → Bk.partN (A ++ ⟨#[32, 9]⟩ ++ S ++ bh) 0 false = A.size) := Lib.hid (fun h => Bk.part_pre (b := bh) (g3 h).2)
    have H4 := Lib.hid (Bk.part_pre (b := bh) g4)
    have H5 := Lib.hid (Bk.part_pre (b := bh) g5)
    have H6 := Lib.hid g6
    clear g1 g2 g3 g4 g5 g6
    have z1 : (A ++ S ++ bh).size ≤ 900000 := by rw [Bk.size_app, Bk.size_app]; omega
    have z2 : (A ++ ⟨#[32, 9]⟩ ++ S ++ bh).size ≤ 900000 := by rw [Bk.size_app, Bk.size_app, Bk.size_app]; show A.size + 2 + _ + _ ≤ _; omega
    have z4 : (A ++ ⟨#[35, 120]⟩ ++ S ++ bh).size ≤ 900000 := by rw [Bk.size_app, Bk.size_app, Bk.size_app]; show A.size + 2 + _ + _ ≤ _; omega
    have z5 : (A ++ ⟨#[32, 35, 120]⟩ ++ S ++ bh).size ≤ 900000 := by rw [Bk.size_app, Bk.size_app, Bk.size_app]; show A.size + 3 + _ + _ ≤ _; omega
    have Z1 := Lib.hid z1
    have Z2 := Lib.hid z2
    have Z4 := Lib.hid z4
    have Z5 := Lib.hid z5
    clear z1 z2 z4 z5
    have q1 : ({ data := #[32, 9] } : ByteArray).size = 2 := rfl
    have q2 : ({ data := #[35, 120] } : ByteArray).size = 2 := rfl
    have q3 : ({ data := #[32, 35, 120] } : ByteArray).size = 3 := rfl
    have t0 : (0 : Int).toNat = 0 := rfl
    have T0 := Lib.hid t0
    clear t0
    by_cases h3 : Bk.lowN y 10 < 3
    all_goals
      cases white
      all_goals
        go_enter Try.func19, Try.ntmps19
        go_wp2_with first
          | (go_at_call 32; refine (low_any _ _ _ (by omega) (by omega)).mono ?_; rintro e1 w' ⟨rfl, rfl⟩)
          | (go_at_call 59; refine (wordOf_any _ _).mono ?_; rintro e1 w1 ⟨rfl, hg⟩; rw [← HA.out]; have HW := Lib.hid hg; clear hg)
          | (go_at_call 64; with_reducible refine (part_any (A ++ S ++ bh) 0 true _ (by have := Z1.out; omega) (by decide)).mono ?_; rintro e1 w2 ⟨rfl, hg⟩; rw [T0.out, H1.out]; replace HW := Lib.hid ((HW.out.alloc HW.out.size _).trans (hg.mono (by have := HW.out.size; simp; omega))); clear hg)
          | (go_at_call 64; with_reducible refine (part_any (A ++ ⟨#[32, 9]⟩ ++ S ++ bh) 0 true _ (by have := Z2.out; omega) (by decide)).mono ?_; rintro e1 w2 ⟨rfl, hg⟩; rw [T0.out, H2.out]; replace HW := Lib.hid ((HW.out.alloc HW.out.size _).trans (hg.mono (by have := HW.out.size; simp; omega))); clear hg)
          | (go_at_call 64; with_reducible refine (part_any (A ++ S ++ bh) 0 false _ (by have := Z1.out; omega) (by decide)).mono ?_; rintro e1 w3 ⟨rfl, hg⟩; rw [T0.out, H3.out h3]; replace HW := Lib.hid (HW.out.trans (hg.mono HW.out.size)); clear hg)
          | (go_at_call 64; with_reducible refine (part_any (A ++ ⟨#[32, 9]⟩ ++ S ++ bh) 0 false _ (by have := Z2.out; omega) (by decide)).mono ?_; rintro e1 w3 ⟨rfl, hg⟩; rw [T0.out, H3'.out h3]; replace HW := Lib.hid (HW.out.trans (hg.mono HW.out.size)); clear hg)
          | (go_at_call 64; with_reducible refine (part_any (A ++ ⟨#[35, 120]⟩ ++ S ++ bh) 0 true _ (by have := Z4.out; omega) (by decide)).mono ?_; rintro e1 w4 ⟨rfl, hg⟩; rw [T0.out, H4.out]; replace HW := Lib.hid (HW.out.trans (hg.mono HW.out.size)); clear hg)
          | (go_at_call 64; with_reducible refine (part_any (A ++ ⟨#[32, 35, 120]⟩ ++ S ++ bh) 0 true _ (by have := Z5.out; omega) (by decide)).mono ?_; rintro e1 w5 ⟨rfl, hg⟩; rw [T0.out, H5.out]; replace HW := Lib.hid (HW.out.trans (hg.mono HW.out.size)); clear hg)
          | (go_at_call 64; with_reducible refine (part_any A 0 false _ (by omega) (by decide)).mono ?_; rintro e1 w6 ⟨rfl, hg⟩; rw [T0.out, H6.out]; replace HW := Lib.hid (HW.out.trans (hg.mono HW.out.size)); clear hg)
          | (go_at_call 61; refine (awake11 _).mono ?_; rintro e1 w7 ⟨rfl, hg⟩; replace HW := Lib.hid (HW.out.trans (hg.mono HW.out.size)); clear hg)
        go_ret
        exact ⟨rfl, HW.out⟩
  · go_enter Try.func19, Try.ntmps19
    go_wp2_with (go_at_call 61; refine (awake11 _).mono ?_; rintro e w' ⟨rfl, hg⟩)
    go_ret
    exact ⟨rfl, hg⟩
end Go.Proofs.Ytmmhpejnfkienaa
