/- Rows folded: plain functions; fold.Flow: its contract. -/
import Derived.Test.YtmmhpejnfkienaaFold1
import Derived.BigQuiet
namespace Go.Proofs.Ytmmhpejnfkienaa
open Go Go.RowKit Go.PlainAid
set_option linter.unusedVariables false
/-- What a walk is told of a slice of texts. -/
def StrsAt (w : World) (a : Option Addr) (len : Nat) (xs : List ByteArray) : Prop :=
  xs.length = len ∧ len ≤ 140737488355328 ∧ (len = 0 ∨ ∃ b off, a = some ⟨b, off, none⟩ ∧ b < w.heap.size ∧ ∀ j, j < len → w.cell? ⟨b, off + j, none⟩ = some (.string (xs.getD j ByteArray.empty)))
theorem StrsAt.below {w w' : World} {a : Option Addr} {len : Nat} {xs : List ByteArray} (h : StrsAt w a len xs) (k : Below w.heap.size w w') : StrsAt w' a len xs := by
  obtain ⟨h1, h2, h3⟩ := h
  refine ⟨h1, h2, ?_⟩
  rcases h3 with h3 | ⟨b, off, rfl, hb, hc⟩
  · exact .inl h3
  · refine .inr ⟨b, off, rfl, Nat.lt_of_lt_of_le hb k.size, fun j hj => ?_⟩
    rw [k.cell (p := ⟨b, off + j, none⟩) hb]; exact hc j hj
namespace Bk
theorem no_text {s : ByteArray} (h : s.size = 0) : s.toList = [] := by
  rw [Lib.toList_data]
  have : s.data.toList.length = 0 := by rw [← Lib.size_eq]; exact h
  exact List.eq_nil_of_length_eq_zero this
theorem some_text {s : ByteArray} (h : 0 < s.size) : s.toList.isEmpty = false := by
  rw [Lib.toList_data]
  cases hq : s.data.toList with
  | nil => exfalso; have : s.data.toList.length = 0 := by rw [hq]; rfl
           rw [← Lib.size_eq] at this; omega
  | cons x l => rfl
def rowAt (xs : List ByteArray) (i : Nat) : ByteArray := xs.getD i ByteArray.empty
/-- What rows as in quotes come to behind so many of them; how many blank ones stand behind. -/
def flowSt (xs : List ByteArray) : Nat → ByteArray × Nat
  | 0 => (ByteArray.empty, 0)
  | i + 1 => if (rowAt xs i).size = 0 ∧ 0 < i ∧ i + 1 < xs.length then ((flowSt xs i).1, (flowSt xs i).2 + 1)
    else ((if 0 < i then (flowSt xs i).1 ++ gapS (flowSt xs i).2 else (flowSt xs i).1) ++ rowAt xs i, 0)
def foldFlow (xs : List ByteArray) : ByteArray := (flowSt xs xs.length).1
/-- How many bytes so many rows have together, and one for each. -/
def sumZ (xs : List ByteArray) : Nat → Nat
  | 0 => 0
  | i + 1 => sumZ xs i + (rowAt xs i).size + 1
theorem sumZ_le (xs : List ByteArray) (i : Nat) : ∀ d, sumZ xs i ≤ sumZ xs (i + d)
  | 0 => Nat.le_refl _
  | d + 1 => by have := sumZ_le xs i d; show _ ≤ sumZ xs (i + d) + _ + 1; omega
theorem sumZ_step {xs : List ByteArray} {i n : Nat} (h : i < n) : sumZ xs i + (rowAt xs i).size + 1 ≤ sumZ xs n := by
  have := sumZ_le xs (i + 1) (n - (i + 1))
  rw [show i + 1 + (n - (i + 1)) = n from by omega] at this
  exact this
theorem sumZ_ge (xs : List ByteArray) : ∀ i, i ≤ sumZ xs i
  | 0 => Nat.le_refl _
  | i + 1 => by have := sumZ_ge xs i; show _ ≤ sumZ xs i + _ + 1; omega
theorem flowSt_le (xs : List ByteArray) : ∀ i, (flowSt xs i).1.size + (flowSt xs i).2 ≤ sumZ xs i
  | 0 => Nat.le_refl _
  | i + 1 => by
    have ih := flowSt_le xs i
    have hg := gapS_size (flowSt xs i).2
    unfold flowSt
    by_cases h : (rowAt xs i).size = 0 ∧ 0 < i ∧ i + 1 < xs.length
    · rw [if_pos h]; show (flowSt xs i).1.size + ((flowSt xs i).2 + 1) ≤ sumZ xs i + _ + 1; omega
    · rw [if_neg h]
      by_cases h0 : 0 < i
      · rw [if_pos h0]; show (_ : ByteArray).size + 0 ≤ sumZ xs i + _ + 1; rw [size_app, size_app]; omega
      · rw [if_neg h0]; show (_ : ByteArray).size + 0 ≤ sumZ xs i + _ + 1; rw [size_app]; omega
end Bk
set_option maxRecDepth 20000 in
set_option maxHeartbeats 3200000 in
theorem flow55_any (a : Option Addr) (len cap : Nat) (xs : List ByteArray) (w : World) (hx : StrsAt w a len xs) (hz : Bk.sumZ xs len ≤ 140737488355328) :
    Calls Try.prog 55 #[.slice a len cap] w fun e w' => e = .returned (.string (Bk.foldFlow xs)) ∧ Below w.heap.size w w' := by
  obtain ⟨hlen, hmax, hx⟩ := hx
  have HX := Lib.hid hx
  clear hx
  have HL := Lib.hid hlen
  clear hlen
  go_enter Try.func55, Try.ntmps55
  go_wp2_with fail
  go_loopw [4, 9] (fun bl i wr => ∃ k : Nat, k ≤ len ∧ i = .int .i64 k ∧ bl = .int .i64 (Bk.flowSt xs k).2 ∧ Hid (Bk.Bld w.heap.size w.heap.size (Bk.flowSt xs k).1 wr) ∧ Hid (Below w.heap.size w wr)) (fun _ i _ => len - (intOf i).toNat)
  case atStart => exact ⟨0, by omega, rfl, rfl, Lib.hid (Bk.bld_fresh w), Lib.hid (by go_grown)⟩
  case round =>
    obtain ⟨k, hk, rfl, rfl, HB, HW⟩ := hrel
    by_cases hkl : k < len
    · rcases HX.out with h0 | ⟨b, off, rfl, hb, hc⟩
      · omega
      have hcell : wr.cell? ⟨b, off + k, none⟩ = some (.string (Bk.rowAt xs k)) := by
        rw [HW.out.cell (p := ⟨b, off + k, none⟩) hb]; exact hc k hkl
      have hs1 := Bk.sumZ_step (xs := xs) hkl
      have hs2 := Bk.flowSt_le xs k
      have hg := Bk.gapS_size (Bk.flowSt xs k).2
      have HN : Hid (Bk.flowSt xs (k + 1) = if (Bk.rowAt xs k).size = 0 ∧ 0 < k ∧ k + 1 < len then ((Bk.flowSt xs k).1, (Bk.flowSt xs k).2 + 1)
        else ((if 0 < k then (Bk.flowSt xs k).1 ++ Bk.gapS (Bk.flowSt xs k).2 else (Bk.flowSt xs k).1) ++ Bk.rowAt xs k, 0)) := Lib.hid (by rw [← HL.out]; rfl)
      generalize Bk.flowSt xs k = st at *
      obtain ⟨acc, bl⟩ := st
      generalize Bk.rowAt xs k = r at *
      have hz1 := Bk.size_app acc (Bk.gapS bl)
      have hsz : acc.size + bl + r.size + 1 ≤ 140737488355328 := by have h : acc.size + bl ≤ Bk.sumZ xs k := hs2; omega
      have hg1 : (Bk.gapS bl).size ≤ bl + 1 := hg
      have hBw : w.heap.size ≤ wr.heap.size := HW.out.size
      clear hs1 hs2 hg hc
      by_cases hA : r.size = 0 ∧ 0 < k ∧ k + 1 < len
      · have HN2 : Hid (Bk.flowSt xs (k + 1) = (acc, bl + 1)) := Lib.hid (by rw [HN.out, if_pos hA])
        have hr := Bk.no_text hA.1
        obtain ⟨_, hA2, hA3⟩ := hA
        go_wp2_with fail
        go_roundw
        case rel => exact ⟨k + 1, by omega, by go_num, by rw [HN2.out]; go_num, by rw [HN2.out]; exact HB, HW⟩
        case measure => simp [intOf]; omega
      · by_cases hk0 : k = 0
        · have HN2 : Hid (Bk.flowSt xs (k + 1) = (acc ++ r, 0)) := Lib.hid (by rw [HN.out, if_neg hA, if_neg (by omega)])
          subst hk0
          rw [Nat.add_zero] at hcell
          clear hA
          have hr : r.toList = [] ∨ r.toList.isEmpty = false := by
            by_cases h : r.size = 0
            · exact .inl (Bk.no_text h)
            · exact .inr (Bk.some_text (by omega))
          rcases hr with hr | hr
          all_goals
            go_wp2_with (go_at_call 77; refine (ws_any _ _ _ _ _ HB.out (by show acc.size + r.size ≤ _; omega) hBw).mono ?_; rintro e w1 ⟨rfl, hg, hg2⟩; have H1 := Lib.hid hg; have W1 := Lib.hid (HW.out.trans hg2); clear hg hg2)
            go_roundw
            case rel => exact ⟨1, by omega, by go_num, by rw [HN2.out]; rfl, by rw [HN2.out]; exact H1, W1⟩
            case measure => simp [intOf]; omega
        · have HN2 : Hid (Bk.flowSt xs (k + 1) = (acc ++ Bk.gapS bl ++ r, 0)) := Lib.hid (by rw [HN.out, if_neg hA, if_pos (by omega)])
          have hr : (r.toList = [] ∧ ¬ k + 1 < len) ∨ r.toList.isEmpty = false := by
            by_cases h : r.size = 0
            · exact .inl ⟨Bk.no_text h, fun h2 => hA ⟨h, by omega, h2⟩⟩
            · exact .inr (Bk.some_text (by omega))
          clear hA
          rcases hr with ⟨hr, hr2⟩ | hr
          all_goals
            go_wp2_with first
              | (go_at_call 78; refine (gap_any bl _ (by omega)).mono ?_; rintro e w1 ⟨rfl, hg⟩; have H1 := Lib.hid (Bk.bld_below HB.out hg); have W1 := Lib.hid (HW.out.trans (hg.mono HW.out.size)); clear hg)
              | (go_at_call 77; refine (ws_any _ _ _ _ _ H2.out (by show (acc ++ Bk.gapS bl).size + r.size ≤ _; omega) W2.out.size).mono ?_; rintro e w3 ⟨rfl, hg, hg2⟩; have H3 := Lib.hid hg; have W3 := Lib.hid (W2.out.trans hg2); clear hg hg2)
              | (go_at_call 77; refine (ws_any _ _ _ _ _ H1.out (by show acc.size + (Bk.gapS bl).size ≤ _; omega) W1.out.size).mono ?_; rintro e w2 ⟨rfl, hg, hg2⟩; have H2 := Lib.hid hg; have W2 := Lib.hid (W1.out.trans hg2); clear hg hg2)
            go_roundw
            case rel => exact ⟨k + 1, by omega, by go_num, by rw [HN2.out]; rfl, by rw [HN2.out]; exact H3, W3⟩
            case measure => simp [intOf]; omega
    · obtain rfl : k = len := by omega
      have HE : Hid (Bk.foldFlow xs = (Bk.flowSt xs k).1) := Lib.hid (by unfold Bk.foldFlow; rw [HL.out])
      go_wp2_with (go_at_call 79; refine (bstr_any _ _ _ _ HB.out HW.out.size).mono ?_; rintro e w1 ⟨rfl, hg⟩; have W1 := Lib.hid (HW.out.trans hg); clear hg)
      go_ret
      exact ⟨ret_str (by rw [HE.out]), W1.out⟩
end Go.Proofs.Ytmmhpejnfkienaa
