/- The document's FoldFlow: its contract. -/
import Derived.Test.YtmmhpejnfkienaaFold2
namespace Go.Proofs.Ytmmhpejnfkienaa
open Go Go.RowKit Go.PlainAid
set_option linter.unusedVariables false
theorem rfeeds_nat (n : Nat) (w : World) (hn : n ≤ 140737488355328) :
    Calls Try.prog 80 #[.int .i64 n] w fun e w' => e = .returned (.string (Bk.manyS 10 n)) ∧ w' = w := by
  refine (rfeeds_any n w (by omega)).mono ?_
  rintro e w' ⟨rfl, rfl⟩
  exact ⟨rfl, rfl⟩
set_option maxRecDepth 20000 in
set_option maxHeartbeats 3200000 in
theorem rflow56_any (a : Option Addr) (len cap : Nat) (xs : List ByteArray) (w : World) (hx : StrsAt w a len xs) (hz : Bk.sumZ xs len ≤ 140737488355328) :
    Calls Try.prog 56 #[.slice a len cap] w fun e w' => e = .returned (.string (Bk.foldFlow xs)) ∧ Below w.heap.size w w' := by
  obtain ⟨hlen, hmax, hx⟩ := hx
  have HX := Lib.hid hx
  clear hx
  have HL := Lib.hid hlen
  clear hlen
  have q1 : ({ data := #[32] } : ByteArray).size = 1 := rfl
  go_enter Try.func56, Try.ntmps56
  go_wp2_with fail
  go_loopw [3, 4, 5] (fun s bl i wr => ∃ k : Nat, k ≤ len ∧ i = .int .i64 k ∧ s = .string (Bk.flowSt xs k).1 ∧ bl = .int .i64 (Bk.flowSt xs k).2 ∧ Hid (Below w.heap.size w wr)) (fun _ _ i _ => len - (intOf i).toNat)
  case atStart => exact ⟨0, by omega, rfl, rfl, rfl, Lib.hid (by go_grown)⟩
  case round =>
    obtain ⟨k, hk, rfl, rfl, rfl, HW⟩ := hrel
    by_cases hkl : k < len
    · rcases HX.out with h0 | ⟨b, off, rfl, hb, hc⟩
      · omega
      have hcell : wr.cell? ⟨b, off + k, none⟩ = some (.string (Bk.rowAt xs k)) := by
        rw [HW.out.cell (p := ⟨b, off + k, none⟩) hb]; exact hc k hkl
      have hs1 := Bk.sumZ_step (xs := xs) hkl
      have hs2 := Bk.flowSt_le xs k
      have hst0 : k = 0 → Bk.flowSt xs k = (ByteArray.empty, 0) := by rintro rfl; rfl
      have HN : Hid (Bk.flowSt xs (k + 1) = if (Bk.rowAt xs k).size = 0 ∧ 0 < k ∧ k + 1 < len then ((Bk.flowSt xs k).1, (Bk.flowSt xs k).2 + 1)
        else ((if 0 < k then (Bk.flowSt xs k).1 ++ Bk.gapS (Bk.flowSt xs k).2 else (Bk.flowSt xs k).1) ++ Bk.rowAt xs k, 0)) := Lib.hid (by rw [← HL.out]; rfl)
      generalize Bk.flowSt xs k = st at *
      obtain ⟨acc, bl⟩ := st
      generalize Bk.rowAt xs k = r at *
      have hsz : acc.size + bl + r.size + 1 ≤ 140737488355328 := by have h : acc.size + bl ≤ Bk.sumZ xs k := hs2; omega
      clear hs1 hs2 hc
      by_cases hA : r.size = 0 ∧ 0 < k ∧ k + 1 < len
      · have HN2 : Hid (Bk.flowSt xs (k + 1) = (acc, bl + 1)) := Lib.hid (by rw [HN.out, if_pos hA])
        have hr := Bk.no_text hA.1
        obtain ⟨_, hA2, hA3⟩ := hA
        clear hst0
        go_wp2_with fail
        go_roundw
        case rel => exact ⟨k + 1, by omega, by go_num, by rw [HN2.out], by rw [HN2.out]; go_num, HW⟩
        case measure => simp [intOf]; omega
      · by_cases hk0 : k = 0
        · obtain ⟨rfl, rfl⟩ : acc = ByteArray.empty ∧ bl = 0 := by have := hst0 hk0; simpa using this
          have HN2 : Hid (Bk.flowSt xs (k + 1) = (r, 0)) := Lib.hid (by rw [HN.out, if_neg hA, if_neg (by omega), ByteArray.empty_append])
          clear hst0
          subst hk0
          rw [Nat.add_zero] at hcell
          clear hA
          go_wp2_with fail
          go_roundw
          case rel => exact ⟨1, by omega, by go_num, by rw [HN2.out], by rw [HN2.out], HW⟩
          case measure => simp [intOf]; omega
        · have HN2 : Hid (Bk.flowSt xs (k + 1) = (acc ++ Bk.gapS bl ++ r, 0)) := Lib.hid (by rw [HN.out, if_neg hA, if_pos (by omega)])
          have hr : (r.toList = [] ∧ ¬ k + 1 < len) ∨ r.toList.isEmpty = false := by
            by_cases h : r.size = 0
            · exact .inl ⟨Bk.no_text h, fun h2 => hA ⟨h, by omega, h2⟩⟩
            · exact .inr (Bk.some_text (by omega))
          clear hA hst0
          by_cases hbl : bl = 0
          · subst hbl
            have z1 := Bk.size_app acc ⟨#[32]⟩
            have z2 := Bk.size_app (acc ++ ⟨#[32]⟩) (Bk.manyS 10 0)
            have z3 := Bk.manyS_size 10 0
            have HE : Hid (acc ++ ⟨#[32]⟩ ++ Bk.manyS 10 0 ++ r = acc ++ Bk.gapS 0 ++ r) := Lib.hid (by
              have h1 : Bk.manyS 10 0 = ByteArray.empty := rfl
              have h2 : Bk.gapS 0 = ⟨#[32]⟩ := rfl
              rw [h1, h2, ByteArray.append_empty])
            rcases hr with ⟨hr, hr2⟩ | hr
            all_goals
              go_wp2_with fail
              go_quiet ((go_at_call 80; exact Calls.quiet_of_same (rfeeds_nat 0 _ (by omega))))
              go_wp2_with fail
              go_roundw
              case rel => exact ⟨k + 1, by omega, by go_num, by rw [HN2.out, HE.out], by rw [HN2.out]; rfl, Lib.hid (below_drewN HW.out _)⟩
              case measure => simp [intOf]; omega
          · have z1 := Bk.size_app acc (Bk.manyS 10 bl)
            have z3 := Bk.manyS_size 10 bl
            have HE : Hid (acc ++ Bk.manyS 10 bl ++ r = acc ++ Bk.gapS bl ++ r) := Lib.hid (by unfold Bk.gapS; rw [if_neg hbl])
            rcases hr with ⟨hr, hr2⟩ | hr
            all_goals
              go_wp2_with fail
              go_quiet ((go_at_call 80; exact Calls.quiet_of_same (rfeeds_nat bl _ (by omega))))
              go_wp2_with fail
              go_roundw
              case rel => exact ⟨k + 1, by omega, by go_num, by rw [HN2.out, HE.out], by rw [HN2.out]; rfl, Lib.hid (below_drewN HW.out _)⟩
              case measure => simp [intOf]; omega
    · obtain rfl : k = len := by omega
      have HE : Hid (Bk.foldFlow xs = (Bk.flowSt xs k).1) := Lib.hid (by unfold Bk.foldFlow; rw [HL.out])
      go_wp2_with fail
      go_ret
      exact ⟨ret_str (by rw [HE.out]), HW.out⟩
end Go.Proofs.Ytmmhpejnfkienaa
