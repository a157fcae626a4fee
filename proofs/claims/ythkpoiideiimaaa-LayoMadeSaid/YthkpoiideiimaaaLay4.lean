/- Width of package utfs; the law's feeds: contracts. -/
import Derived.Test.YthkpoiideiimaaaLay3
import Derived.Laws.RangeAny
namespace Go.Proofs.Ythkpoiideiimaaa
open Go Go.RowKit Go.PlainAid
set_option linter.unusedVariables false
namespace Bk
theorem decode_pos {s : ByteArray} {p : Nat} (h : p < s.size) : 1 ≤ (Utf8.decode s p).2 := by
  by_cases ha : (s[p]'h).toNat < 128
  · rw [decode_ascii s p h ha]; exact Nat.le_refl _
  · exact (decode_high s p h (by omega)).2
theorem widL_le (s : ByteArray) : ∀ f p, widL s f p ≤ f
  | 0, _ => Nat.le_refl _
  | f + 1, p => by
    unfold widL
    split
    · have := widL_le s f (p + (Utf8.decode s p).2); omega
    · omega
theorem widS_le (s : ByteArray) : widS s ≤ s.size := widL_le s _ _
end Bk
set_option maxHeartbeats 800000 in
theorem width_any (s : ByteArray) (w : World) (hs : s.size ≤ 100000000) :
    Calls Try.prog 17 #[.string s] w fun e w' => e = .returned (.int .i64 (Bk.widS s : Nat)) ∧ Below w.heap.size w w' := by
  go_enter Try.func17, Try.ntmps17
  go_wp2_with fail
  go_loopw [3] (fun n wr => ∃ (pos acc f : Nat), wr = w.iter s pos ∧ n = .int .i64 acc ∧ acc ≤ pos ∧ Hid (Bk.widS s = acc + Bk.widL s f pos) ∧ s.size ≤ pos + f ∧ acc + f ≤ s.size) (fun _ wr => s.size - wr.iterPos w.heap.size)
  case atStart => exact ⟨0, 0, s.size, rfl, rfl, by omega, Lib.hid (by unfold Bk.widS; omega), by omega, by omega⟩
  case round =>
    obtain ⟨pos, acc, f, rfl, rfl, hap, H, hf, hf2⟩ := hrel
    by_cases hp : pos < s.size
    · have hnx : ∀ ty, (Instr.next (.pointer (some ⟨w.heap.size, 0, none⟩)) true ty).run Try.prog (w.iter s pos) = _ := fun ty => run_next_any w s pos ty hp
      have hd := Bk.decode_pos hp
      obtain ⟨f', rfl⟩ : ∃ f', f = f' + 1 := ⟨f - 1, by omega⟩
      have HN : Hid (Bk.widS s = acc + 1 + Bk.widL s f' (pos + (Utf8.decode s pos).2)) := Lib.hid (by rw [H.out, Bk.widL, if_pos hp]; omega)
      go_wp2_with fail
      go_roundw
      case rel => exact ⟨pos + (Utf8.decode s pos).2, acc + 1, f', rfl, by go_num, by omega, HN, by omega, by omega⟩
      case measure =>
        simp
        omega
    · have hnx : ∀ ty, (Instr.next (.pointer (some ⟨w.heap.size, 0, none⟩)) true ty).run Try.prog (w.iter s pos) = _ := fun ty => run_next_end w s pos ty hp
      have HE : Hid (Bk.widS s = acc) := Lib.hid (by
        rw [H.out]
        have : Bk.widL s f pos = 0 := by
          cases f with
          | zero => rfl
          | succ f => rw [Bk.widL, if_neg hp]
        omega)
      go_wp2_with fail
      go_ret
      exact ⟨ret_int (by rw [HE.out]), (Below.refl _ _).alloc (Nat.le_refl _) _⟩
set_option maxHeartbeats 800000 in
theorem feeds18_any (s : ByteArray) (w : World) (hs : s.size ≤ 100000000) :
    Calls Try.prog 18 #[.string s] w fun e w' => e = .returned (.int .i64 (Bk.cntF s : Nat)) ∧ w = w' := by
  have hb := get_bt s
  have HF : Hid (Bk.cntF s = Bk.cntN s s.size) := Lib.hid rfl
  go_enter Try.func18, Try.ntmps18
  go_wp2_with fail
  go_loop [3, 4] (fun n i => ∃ j : Nat, j ≤ s.size ∧ i = .int .i64 j ∧ n = .int .i64 (Bk.cntN s j) ∧ Bk.cntN s j ≤ j) (fun _ i => s.size - (intOf i).toNat)
  case atStart => exact ⟨0, by omega, rfl, rfl, Nat.le_refl _⟩
  case round =>
    obtain ⟨j, hj, rfl, rfl, hcj⟩ := hrel
    by_cases hjs : j < s.size
    · cases hq : (bt s j == 10) with
      | true =>
        have HN : Hid (Bk.cntN s (j + 1) = Bk.cntN s j + 1) := Lib.hid (by rw [Bk.cntN, hq]; rfl)
        go_wp2_with fail
        go_round
        case rel => exact ⟨j + 1, by omega, by go_num, by rw [HN.out]; go_num, by rw [HN.out]; omega⟩
        case measure => simp [intOf]; omega
      | false =>
        have HN : Hid (Bk.cntN s (j + 1) = Bk.cntN s j) := Lib.hid (by rw [Bk.cntN, hq]; rfl)
        go_wp2_with fail
        go_round
        case rel => exact ⟨j + 1, by omega, by go_num, by rw [HN.out], by rw [HN.out]; omega⟩
        case measure => simp [intOf]; omega
    · obtain rfl : j = s.size := by omega
      go_wp2_with fail
      go_ret
      exact ⟨ret_int (by rw [HF.out]), rfl⟩
end Go.Proofs.Ythkpoiideiimaaa
