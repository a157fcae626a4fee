/- The law RowsAbove of chapter 7: its walk. -/
import Derived.Test.YtmmhpejnfkienaaRowPlain
import Derived.Test.YtmmhpejnfkienaaRowLaws
namespace Go.Proofs.Ytmmhpejnfkienaa
open Go Go.RowKit Go.PlainAid
namespace Bk
/-- Rows of blanks, behind a word or none. -/
def upRows (word : Bool) (a : Nat) : Nat → ByteArray
  | 0 => if word then ⟨#[119, 10]⟩ else ByteArray.empty
  | i + 1 => upRows word a i ++ manyS 32 (lowN ((a : Int) + (i : Int)) 3) ++ ⟨#[10]⟩
def upText (word : Bool) (a k b : Nat) : ByteArray := upRows word a k ++ manyS 32 b ++ ⟨#[120, 121, 10]⟩
theorem up_is : ∀ word : Bool, ∀ a, a < 3 → ∀ k, k < 5 → ∀ b, b < 4 →
    aboveN (upText word a k b) (heldN (upText word a k b) (((upRows word a k).size : Nat) + (b : Nat) : Int)) = k ∧
    aboveN (upText word a k b) (heldN (upText word a k b) (((upRows word a k).size : Nat) + (b : Nat) + 1 : Int)) = 0 ∧
    aboveN (upText word a k b) (heldN (upText word a k b) ((upText word a k b).size : Nat)) = 0 ∧ (upText word a k b).size ≤ 40 := by
  decide +kernel
theorem upRows_le (word : Bool) (a : Nat) : ∀ i, (upRows word a i).size ≤ 2 + 4 * i
  | 0 => by cases word <;> (unfold upRows; decide)
  | i + 1 => by
    have h := upRows_le word a i
    have h2 := lowN_lt (x := (a : Int) + (i : Int)) (n := 3) (by omega)
    have h3 : ({ data := #[10] } : ByteArray).size = 1 := rfl
    rw [upRows, size_app, size_app, manyS_size]; omega
end Bk
set_option maxRecDepth 20000 in
set_option maxHeartbeats 1600000 in
theorem rowsAbove_walk (n a b : Int) (word : Bool) (w : World) :
    Calls Try.prog 9 #[.int .i64 n, .int .i64 a, .int .i64 b, .bool word] w fun e w' => e = .returned (.bool true) ∧ w = w' := by
  have hk := Bk.lowN_lt (x := n) (n := 5) (by omega)
  have ha := Bk.lowN_lt (x := a) (n := 3) (by omega)
  have hb := Bk.lowN_lt (x := b) (n := 4) (by omega)
  obtain ⟨k, hK⟩ : ∃ k, k = Bk.lowN n 5 := ⟨_, rfl⟩
  obtain ⟨A, hA⟩ : ∃ A, A = Bk.lowN a 3 := ⟨_, rfl⟩
  obtain ⟨B, hB⟩ : ∃ B, B = Bk.lowN b 4 := ⟨_, rfl⟩
  rw [← hK] at hk
  rw [← hA] at ha
  rw [← hB] at hb
  have HK := Lib.hid hK
  have HA := Lib.hid hA
  have HB := Lib.hid hB
  clear hK hA hB
  obtain ⟨wd, hwd⟩ : ∃ wd : Bool, wd = word := ⟨_, rfl⟩
  have HUP := Lib.hid (Bk.up_is wd A (by omega) k (by omega) B (by omega))
  have h1 : ({ data := #[10] } : ByteArray).size ≤ 1 := by decide
  have h2 : ({ data := #[120, 121, 10] } : ByteArray).size ≤ 3 := by decide
  have W0 : Hid (Bk.upRows wd A 0 = if word then ⟨#[119, 10]⟩ else ByteArray.empty) := Lib.hid (by rw [hwd]; rfl)
  clear hwd
  cases word
  all_goals
    go_enter Try.func9, Try.ntmps9
    go_wp2_with (go_at_call 32; refine (low_any _ _ _ (by omega) (by omega)).mono ?_; rintro e w' ⟨rfl, rfl⟩; rw [← HK.out])
    go_loop [10, 11] (fun s i => ∃ j : Nat, j ≤ k ∧ i = .int .i64 j ∧ s = .string (Bk.upRows wd A j)) (fun _ i => k - (intOf i).toNat)
    case atStart => exact ⟨0, Nat.zero_le _, rfl, by rw [W0.out]; rfl⟩
    case round =>
      obtain ⟨j, hj, rfl, rfl⟩ := hrel
      have hz := Bk.upRows_le wd A j
      by_cases hlt : j < k
      · have hl := Bk.lowN_lt (x := (A : Int) + (j : Int)) (n := 3) (by omega)
        have hz2 := Bk.manyS_size 32 (Bk.lowN ((A : Int) + (j : Int)) 3)
        have hz3 := Bk.size_app (Bk.upRows wd A j) (Bk.manyS 32 (Bk.lowN ((A : Int) + (j : Int)) 3))
        go_wp2_with first
          | (go_at_call 32; with_reducible refine (low_any a 3 _ (by omega) (by omega)).mono ?_; rintro e w' ⟨rfl, rfl⟩; rw [← HA.out])
          | (go_at_call 32; refine (low_any _ _ _ (by omega) (by omega)).mono ?_; rintro e w' ⟨rfl, rfl⟩)
          | (go_at_call 49; refine (blanks_any _ _ (by omega)).mono ?_; rintro e w' ⟨rfl, rfl⟩; rw [Int.toNat_natCast])
        go_round
        case rel => exact ⟨j + 1, by omega, by go_num, rfl⟩
        case measure => simp [intOf]; omega
      · obtain rfl : k = j := by omega
        have hz2 := Bk.manyS_size 32 B
        have hz3 := Bk.size_app (Bk.upRows wd A k) (Bk.manyS 32 B)
        have hs : (Bk.upText wd A k B).size ≤ 4611686018427387903 := by have := HUP.out.2.2.2; omega
        have E1 : Hid (Bk.upRows wd A k ++ Bk.manyS 32 B ++ ⟨#[120, 121, 10]⟩ = Bk.upText wd A k B) := Lib.hid rfl
        go_wp2_with first
          | (go_at_call 32; refine (low_any _ _ _ (by omega) (by omega)).mono ?_; rintro e w' ⟨rfl, rfl⟩; rw [← HB.out])
          | (go_at_call 49; refine (blanks_any _ _ (by omega)).mono ?_; rintro e w' ⟨rfl, rfl⟩; rw [Int.toNat_natCast])
          | (go_at_call 47; (try rw [E1.out]); refine (above_any _ _ _ hs).mono ?_; rintro e w' ⟨rfl, rfl⟩; first | rw [HUP.out.1] | rw [HUP.out.2.1] | rw [HUP.out.2.2.1])
          | (go_at_call 38; refine (awake7 _).mono ?_; rintro e w' ⟨rfl, rfl⟩)
        go_ret
        exact ⟨rfl, rfl⟩
end Go.Proofs.Ytmmhpejnfkienaa
