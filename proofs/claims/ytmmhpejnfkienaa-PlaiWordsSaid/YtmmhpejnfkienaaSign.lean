/- The functions of package sign, and the reference's own, return what a byte is: contracts. -/
import Derived.Test.YtmmhpejnfkienaaProg
import Derived.Test.YtmmhpejnfkienaaScan
import Derived.WalkKit
import Derived.WalkSpells
import Derived.WalkLawsBesides
import Derived.PlainAid
import Derived.Handy
import Derived.Outline
import Derived.Lib.Hide
namespace Go.Proofs.Ytmmhpejnfkienaa
open Go Go.RowKit Go.PlainAid
namespace Bk
/-- A byte of a text, as a number; nothing of it can be seen through. -/
def hasB (l : ByteArray) (c : Int) : Bool := l.data.toList.any fun b => (b.toNat : Int) == c
theorem hasB_yes {l : ByteArray} {c : Int} {k : Nat} (h : k < l.size) (e : bt l k = c) : hasB l c = true := by
  unfold hasB
  rw [List.any_eq_true]
  refine ⟨l[k], ?_, ?_⟩
  · exact Array.mem_toList_iff.2 (Array.getElem_mem h)
  · have := get_bt l k h
    simp [this, e]
theorem hasB_no {l : ByteArray} {c : Int} (h : ∀ k, k < l.size → bt l k ≠ c) : hasB l c = false := by
  unfold hasB
  rw [List.any_eq_false]
  intro b hb
  obtain ⟨k, hk, rfl⟩ := Array.getElem_of_mem (Array.mem_toList_iff.1 hb)
  have h1 := h k hk
  have h2 := get_bt l k hk
  simp only [beq_iff_eq]
  intro h3
  exact h1 (by rw [← h2]; exact h3)
theorem has_list (l : List UInt8) (c : Int) : hasB ⟨l.toArray⟩ c = (l.map fun b => (b.toNat : Int)).contains c := by
  unfold hasB
  rw [Bool.eq_iff_iff]
  simp [List.any_eq_true]
def indB (c : Int) : Bool := [45, 63, 58, 35, 38, 42, 33, 124, 62, 39, 34, 37, 64, 96].contains c || flowB c
def wordB (c : Int) : Bool := decide (97 ≤ c ∧ c ≤ 122) || decide (65 ≤ c ∧ c ≤ 90) || decide (48 ≤ c ∧ c ≤ 57) || c == 45
def uriB (c : Int) : Bool := [35, 59, 47, 63, 58, 64, 38, 61, 43, 36, 95, 46, 33, 126, 42, 39, 40, 41, 37, 44, 91, 93].contains c || wordB c
theorem has_ind (c : Int) : hasB ⟨#[45, 63, 58, 44, 91, 93, 123, 125, 35, 38, 42, 33, 124, 62, 39, 34, 37, 64, 96]⟩ c = indB c := by
  rw [has_list [45, 63, 58, 44, 91, 93, 123, 125, 35, 38, 42, 33, 124, 62, 39, 34, 37, 64, 96]]
  rw [Bool.eq_iff_iff]; simp [indB, flowB]; omega
end Bk
theorem ret_bool {a b : Bool} (h : a = b) : Ending.returned (.bool a) = .returned (.bool b) := by rw [h]
set_option maxHeartbeats 400000 in
theorem white_any (c : Int) (w : World) :
    Calls Try.prog 22 #[.int .u8 c] w fun e w' => e = .returned (.bool (Bk.whiteB c)) ∧ w = w' := by
  go_enter Try.func22, Try.ntmps22
  go_wp2
  all_goals (go_ret; refine ⟨?_, rfl⟩; simp_all [Bk.whiteB])
set_option maxHeartbeats 400000 in
theorem flow_any (c : Int) (w : World) :
    Calls Try.prog 26 #[.int .u8 c] w fun e w' => e = .returned (.bool (Bk.flowB c)) ∧ w = w' := by
  go_enter Try.func26, Try.ntmps26
  go_wp2
  all_goals (go_ret; refine ⟨?_, rfl⟩; simp_all [Bk.flowB])
set_option maxHeartbeats 400000 in
theorem ind_any (c : Int) (w : World) :
    Calls Try.prog 24 #[.int .u8 c] w fun e w' => e = .returned (.bool (Bk.indB c)) ∧ w = w' := by
  go_enter Try.func24, Try.ntmps24
  go_wp2_with (go_at_call 26; refine (flow_any _ _).mono ?_; rintro e w' ⟨rfl, rfl⟩)
  all_goals (go_ret; refine ⟨?_, rfl⟩; simp_all [Bk.indB])
set_option maxHeartbeats 400000 in
theorem word_any (c : Int) (w : World) :
    Calls Try.prog 28 #[.int .u8 c] w fun e w' => e = .returned (.bool (Bk.wordB c)) ∧ w = w' := by
  go_enter Try.func28, Try.ntmps28
  go_wp2
  all_goals (go_ret; refine ⟨?_, rfl⟩; simp_all [Bk.wordB] <;> omega)
set_option maxHeartbeats 400000 in
theorem uri_any (c : Int) (w : World) :
    Calls Try.prog 30 #[.int .u8 c] w fun e w' => e = .returned (.bool (Bk.uriB c)) ∧ w = w' := by
  go_enter Try.func30, Try.ntmps30
  go_wp2_with (go_at_call 28; refine (word_any _ _).mono ?_; rintro e w' ⟨rfl, rfl⟩)
  all_goals (go_ret; refine ⟨?_, rfl⟩; simp_all [Bk.uriB])
set_option maxHeartbeats 400000 in
theorem rwhite_any (c : Int) (w : World) :
    Calls Try.prog 23 #[.int .u8 c] w fun e w' => e = .returned (.bool (Bk.whiteB c)) ∧ w = w' := by
  go_enter Try.func23, Try.ntmps23
  go_wp2
  all_goals (go_ret; refine ⟨?_, rfl⟩; simp_all [Bk.whiteB])
set_option maxHeartbeats 400000 in
theorem rhas_any (l : ByteArray) (c : Int) (w : World) (hs : l.size ≤ 4611686018427387904) :
    Calls Try.prog 66 #[.string l, .int .u8 c] w fun e w' => e = .returned (.bool (Bk.hasB l c)) ∧ w = w' := by
  have hb := get_bt l
  go_enter Try.func66, Try.ntmps66
  go_wp2
  go_loop [5] (fun i => ∃ k : Nat, k ≤ l.size ∧ i = .int .i64 k ∧ ∀ j, j < k → bt l j ≠ c) (fun i => l.size - (intOf i).toNat)
  case atStart => exact ⟨0, Nat.zero_le _, rfl, fun j h => absurd h (by omega)⟩
  case round =>
    obtain ⟨k, hk, rfl, hall⟩ := hrel
    have H := Lib.hid hall; clear hall
    by_cases hlt : k < l.size
    · by_cases hc : bt l k = c
      · have HY := Lib.hid (Bk.hasB_yes hlt hc)
        subst hc
        go_wp2
        go_ret
        exact ⟨ret_bool HY.out.symm, rfl⟩
      · have h1 : (bt l k == c) = false := by simp [hc]
        have hc' := Lib.hid hc; clear hc
        go_wp2
        go_round
        case rel =>
          refine ⟨k + 1, by omega, by go_num, ?_⟩
          intro j hj
          by_cases e : j = k
          · subst e; exact hc'.out
          · exact H.out j (by omega)
        case measure => simp [intOf]; omega
    · have HN := Lib.hid (Bk.hasB_no (l := l) (c := c) (fun j hj => H.out j (by omega)))
      go_wp2
      go_ret
      exact ⟨ret_bool HN.out.symm, rfl⟩
theorem rind_any (c : Int) (w : World) :
    Calls Try.prog 25 #[.int .u8 c] w fun e w' => e = .returned (.bool (Bk.indB c)) ∧ w = w' := by
  go_enter Try.func25, Try.ntmps25
  go_wp2_with (go_at_call 66; refine (rhas_any _ _ _ (by decide)).mono ?_; rintro e w' ⟨rfl, rfl⟩)
  go_ret
  exact ⟨ret_bool (Bk.has_ind c), rfl⟩
end Go.Proofs.Ytmmhpejnfkienaa
