/- Rows of a block: plain functions; fold.Block where it folds: its contract. -/
import Derived.Test.YtmmhpejnfkienaaFold3
namespace Go.Proofs.Ytmmhpejnfkienaa
open Go Go.RowKit Go.PlainAid
set_option linter.unusedVariables false
namespace Bk
/-- What stands between two rows that are something. -/
def midS (l r : ByteArray) (bl : Nat) : ByteArray :=
  if l.size = 0 then manyS 10 bl else if whiteB (bt l 0) || whiteB (bt r 0) then manyS 10 (bl + 1) else gapS bl
theorem midS_size (l r : ByteArray) (bl : Nat) : (midS l r bl).size ≤ bl + 1 := by
  have h := gapS_size bl
  unfold midS
  split
  · rw [manyS_size]; omega
  · split
    · rw [manyS_size]; omega
    · exact h
/-- What rows of a block come to behind so many of them; how many blank ones stand behind; the last one that is something. -/
def blockSt (xs : List ByteArray) : Nat → ByteArray × Nat × ByteArray
  | 0 => (ByteArray.empty, 0, ByteArray.empty)
  | i + 1 => if (rowAt xs i).size = 0 then ((blockSt xs i).1, (blockSt xs i).2.1 + 1, (blockSt xs i).2.2)
    else ((blockSt xs i).1 ++ midS (blockSt xs i).2.2 (rowAt xs i) (blockSt xs i).2.1 ++ rowAt xs i, 0, rowAt xs i)
def foldBlock (xs : List ByteArray) : ByteArray :=
  (blockSt xs xs.length).1 ++ manyS 10 (if (blockSt xs xs.length).2.2.size = 0 then (blockSt xs xs.length).2.1 - 1 else (blockSt xs xs.length).2.1)
theorem blockSt_le (xs : List ByteArray) : ∀ i, (blockSt xs i).1.size + (blockSt xs i).2.1 ≤ sumZ xs i
  | 0 => Nat.le_refl _
  | i + 1 => by
    have ih := blockSt_le xs i
    have hg := midS_size (blockSt xs i).2.2 (rowAt xs i) (blockSt xs i).2.1
    unfold blockSt
    by_cases h : (rowAt xs i).size = 0
    · rw [if_pos h]; show (blockSt xs i).1.size + ((blockSt xs i).2.1 + 1) ≤ sumZ xs i + _ + 1; omega
    · rw [if_neg h]; show (_ : ByteArray).size + 0 ≤ sumZ xs i + _ + 1; rw [size_app, size_app]; omega
end Bk
set_option maxRecDepth 20000 in
set_option maxHeartbeats 3200000 in
theorem block57_any (a : Option Addr) (len cap : Nat) (xs : List ByteArray) (w : World) (hx : StrsAt w a len xs) (hz : Bk.sumZ xs len ≤ 140737488355328) :
    Calls Try.prog 57 #[.slice a len cap, .bool true] w fun e w' => e = .returned (.string (Bk.foldBlock xs)) ∧ Below w.heap.size w w' := by
  obtain ⟨hlen, hmax, hx⟩ := hx
  have HX := Lib.hid hx
  clear hx
  have HL := Lib.hid hlen
  clear hlen
  go_enter Try.func57, Try.ntmps57
  go_wp2_with fail
  go_loopw [6, 7, 16] (fun bl l i wr => ∃ k : Nat, k ≤ len ∧ i = .int .i64 k ∧ bl = .int .i64 (Bk.blockSt xs k).2.1 ∧ l = .string (Bk.blockSt xs k).2.2 ∧ Hid (Bk.Bld w.heap.size w.heap.size (Bk.blockSt xs k).1 wr) ∧ Hid (Below w.heap.size w wr)) (fun _ _ i _ => len - (intOf i).toNat)
  case atStart => exact ⟨0, by omega, rfl, rfl, rfl, Lib.hid (Bk.bld_fresh w), Lib.hid (by go_grown)⟩
  case round =>
    obtain ⟨k, hk, rfl, rfl, rfl, HB, HW⟩ := hrel
    have hs2 := Bk.blockSt_le xs k
    by_cases hkl : k < len
    · rcases HX.out with h0 | ⟨b, off, rfl, hb, hc⟩
      · omega
      have hcell : wr.cell? ⟨b, off + k, none⟩ = some (.string (Bk.rowAt xs k)) := by
        rw [HW.out.cell (p := ⟨b, off + k, none⟩) hb]; exact hc k hkl
      have hs1 := Bk.sumZ_step (xs := xs) hkl
      have HN : Hid (Bk.blockSt xs (k + 1) = if (Bk.rowAt xs k).size = 0 then ((Bk.blockSt xs k).1, (Bk.blockSt xs k).2.1 + 1, (Bk.blockSt xs k).2.2)
        else ((Bk.blockSt xs k).1 ++ Bk.midS (Bk.blockSt xs k).2.2 (Bk.rowAt xs k) (Bk.blockSt xs k).2.1 ++ Bk.rowAt xs k, 0, Bk.rowAt xs k)) := Lib.hid rfl
      generalize Bk.blockSt xs k = st at *
      obtain ⟨acc, bl, la⟩ := st
      generalize Bk.rowAt xs k = r at *
      have hsz : acc.size + bl + r.size + 1 ≤ 140737488355328 := by have h : acc.size + bl ≤ Bk.sumZ xs k := hs2; omega
      have hBw : w.heap.size ≤ wr.heap.size := HW.out.size
      clear hs1 hs2 hc
      by_cases hA : r.size = 0
      · have HN2 : Hid (Bk.blockSt xs (k + 1) = (acc, bl + 1, la)) := Lib.hid (by rw [HN.out, if_pos hA])
        have hr := Bk.no_text hA
        go_wp2_with fail
        go_roundw
        case rel => exact ⟨k + 1, by omega, by go_num, by rw [HN2.out]; go_num, by rw [HN2.out], by rw [HN2.out]; exact HB, HW⟩
        case measure => simp [intOf]; omega
      · have hr := Bk.some_text (s := r) (by omega)
        have HN2 : Hid (Bk.blockSt xs (k + 1) = (acc ++ Bk.midS la r bl ++ r, 0, r)) := Lib.hid (by rw [HN.out, if_neg hA])
        have hrp : 0 < r.size := by omega
        clear hA
        have hm := Bk.midS_size la r bl
        obtain ⟨m, hmq⟩ : ∃ m, m = Bk.midS la r bl := ⟨_, rfl⟩
        have HM := Lib.hid hmq
        rw [← hmq] at HN2 hm
        clear hmq
        have hz1 := Bk.size_app acc m
        have hway : (la.toList = [] ∧ Hid (Bk.manyS 10 bl = m)) ∨ (0 < la.size ∧ la.toList.isEmpty = false ∧ ((Bk.whiteB (bt la 0) = true ∧ Hid (Bk.manyS 10 (bl + 1) = m)) ∨ (Bk.whiteB (bt la 0) = false ∧ Bk.whiteB (bt r 0) = true ∧ Hid (Bk.manyS 10 (bl + 1) = m)) ∨ (Bk.whiteB (bt la 0) = false ∧ Bk.whiteB (bt r 0) = false ∧ Hid (Bk.gapS bl = m)))) := by
          have h1 := HM.out
          unfold Bk.midS at h1
          by_cases hl : la.size = 0
          · rw [if_pos hl] at h1; exact .inl ⟨Bk.no_text hl, Lib.hid h1.symm⟩
          · rw [if_neg hl] at h1
            refine .inr ⟨by omega, Bk.some_text (by omega), ?_⟩
            cases hw1 : Bk.whiteB (bt la 0) with
            | true => rw [hw1, Bool.true_or, if_pos rfl] at h1; exact .inl ⟨rfl, Lib.hid h1.symm⟩
            | false =>
              cases hw2 : Bk.whiteB (bt r 0) with
              | true => rw [hw1, hw2, Bool.false_or, if_pos rfl] at h1; exact .inr (.inl ⟨rfl, rfl, Lib.hid h1.symm⟩)
              | false => rw [hw1, hw2, Bool.false_or, if_neg (by decide)] at h1; exact .inr (.inr ⟨rfl, rfl, Lib.hid h1.symm⟩)
        clear HM
        rcases hway with ⟨hl, HV⟩ | ⟨hlp, hl, ⟨hw1, HV⟩ | ⟨hw1, hw2, HV⟩ | ⟨hw1, hw2, HV⟩⟩
        all_goals
          go_wp2_with first
            | (go_at_call 83; refine (fwhite_any _ _ (by omega)).mono ?_; rintro e w1 ⟨rfl, rfl⟩)
            | (go_at_call 78; refine (gap_any bl _ (by omega)).mono ?_; rintro e w1 ⟨rfl, hg⟩; rw [HV.out]; have H1 := Lib.hid (Bk.bld_below HB.out hg); have W1 := Lib.hid (HW.out.trans (hg.mono HW.out.size)); clear hg)
            | (go_at_call 82; with_reducible refine (rep_any bl _ (by omega)).mono ?_; rintro e w1 ⟨rfl, hg⟩; rw [HV.out]; have H1 := Lib.hid (Bk.bld_below HB.out hg); have W1 := Lib.hid (HW.out.trans (hg.mono HW.out.size)); clear hg)
            | (go_at_call 82; rw [show ((bl : Int) + 1) = ((bl + 1 : Nat) : Int) from by omega]; with_reducible refine (rep_any (bl + 1) _ (by omega)).mono ?_; rintro e w1 ⟨rfl, hg⟩; rw [HV.out]; have H1 := Lib.hid (Bk.bld_below HB.out hg); have W1 := Lib.hid (HW.out.trans (hg.mono HW.out.size)); clear hg)
            | (go_at_call 77; refine (ws_any _ _ _ _ _ H2.out (by show (acc ++ m).size + r.size ≤ _; omega) W2.out.size).mono ?_; rintro e w3 ⟨rfl, hg, hg2⟩; have H3 := Lib.hid hg; have W3 := Lib.hid (W2.out.trans hg2); clear hg hg2)
            | (go_at_call 77; refine (ws_any _ _ _ _ _ H1.out (by show acc.size + m.size ≤ _; omega) W1.out.size).mono ?_; rintro e w2 ⟨rfl, hg, hg2⟩; have H2 := Lib.hid hg; have W2 := Lib.hid (W1.out.trans hg2); clear hg hg2)
          go_roundw
          case rel => exact ⟨k + 1, by omega, by go_num, by rw [HN2.out]; rfl, by rw [HN2.out], by rw [HN2.out]; exact H3, W3⟩
          case measure => simp [intOf]; omega
    · obtain rfl : k = len := by omega
      have hs3 : (Bk.blockSt xs k).1.size + (Bk.blockSt xs k).2.1 ≤ 140737488355328 := by omega
      have HE : Hid (Bk.foldBlock xs = (Bk.blockSt xs k).1 ++ Bk.manyS 10 (if (Bk.blockSt xs k).2.2.size = 0 then (Bk.blockSt xs k).2.1 - 1 else (Bk.blockSt xs k).2.1)) := Lib.hid (by unfold Bk.foldBlock; rw [HL.out])
      clear hs2
      generalize Bk.blockSt xs k = st at *
      obtain ⟨acc, bl, la⟩ := st
      replace hs3 : acc.size + bl ≤ 140737488355328 := hs3
      by_cases hl : la.size = 0
      · have HE2 : Hid (Bk.foldBlock xs = acc ++ Bk.manyS 10 (bl - 1)) := Lib.hid (by rw [HE.out, if_pos hl])
        have hl2 := Bk.no_text hl
        have z1 := Bk.size_app acc (Bk.manyS 10 (bl - 1))
        have z2 := Bk.manyS_size 10 (bl - 1)
        clear hl
        have EB : Hid (max ((bl : Int) - 1) 0 = ((bl - 1 : Nat) : Int)) := Lib.hid (by omega)
        go_wp2_with first
          | (go_at_call 79; refine (bstr_any _ _ _ _ HB.out HW.out.size).mono ?_; rintro e w1 ⟨rfl, hg⟩; have W1 := Lib.hid (HW.out.trans hg); clear hg)
          | (go_at_call 82; rw [EB.out]; with_reducible refine (rep_any (bl - 1) _ (by omega)).mono ?_; rintro e w2 ⟨rfl, hg⟩; have W2 := Lib.hid (W1.out.trans (hg.mono W1.out.size)); clear hg)
        go_ret
        exact ⟨ret_str (by rw [HE2.out]), W2.out⟩
      · have HE2 : Hid (Bk.foldBlock xs = acc ++ Bk.manyS 10 bl) := Lib.hid (by rw [HE.out, if_neg hl])
        have hl2 := Bk.some_text (s := la) (by omega)
        have z1 := Bk.size_app acc (Bk.manyS 10 bl)
        have z2 := Bk.manyS_size 10 bl
        clear hl
        go_wp2_with first
          | (go_at_call 79; refine (bstr_any _ _ _ _ HB.out HW.out.size).mono ?_; rintro e w1 ⟨rfl, hg⟩; have W1 := Lib.hid (HW.out.trans hg); clear hg)
          | (go_at_call 82; refine (rep_any bl _ (by omega)).mono ?_; rintro e w2 ⟨rfl, hg⟩; have W2 := Lib.hid (W1.out.trans (hg.mono W1.out.size)); clear hg)
        go_ret
        exact ⟨ret_str (by rw [HE2.out]), W2.out⟩
end Go.Proofs.Ytmmhpejnfkienaa
