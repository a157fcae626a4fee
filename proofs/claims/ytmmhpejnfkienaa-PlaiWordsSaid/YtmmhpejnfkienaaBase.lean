/- Blanks, Feeds and WordOf: contracts. -/
import Derived.Test.YtmmhpejnfkienaaStrs
import Derived.Test.YtmmhpejnfkienaaRow6
namespace Go.Proofs.Ytmmhpejnfkienaa
open Go Go.RowKit Go.PlainAid
namespace Bk
/-- So many of one byte. -/
def manyS (c : UInt8) : Nat → ByteArray
  | 0 => ByteArray.empty
  | n + 1 => manyS c n ++ ⟨#[c]⟩
theorem manyS_size (c : UInt8) : ∀ n, (manyS c n).size = n
  | 0 => rfl
  | n + 1 => by rw [manyS, size_app, manyS_size c n]; rfl
theorem manyS_bt (c : UInt8) : ∀ n j, j < n → bt (manyS c n) j = (c.toNat : Int)
  | 0, j, h => by omega
  | n + 1, j, h => by
    rw [manyS]
    by_cases e : j < n
    · rw [bt_left (by rw [manyS_size]; exact e)]; exact manyS_bt c n j e
    · have : j = n := by omega
      subst this
      rw [bt_right (by rw [manyS_size]; omega) (by rw [manyS_size]; show j < j + 1; omega), manyS_size, Nat.sub_self]; rfl
end Bk
set_option maxHeartbeats 400000 in
theorem blanks_any (n : Int) (w : World) (hn : n ≤ 1000000000) :
    Calls Try.prog 49 #[.int .i64 n] w fun e w' => e = .returned (.string (Bk.manyS 32 n.toNat)) ∧ w = w' := by
  have hone : ({ data := #[32] } : ByteArray).size ≤ 1 := by decide
  go_enter Try.func49, Try.ntmps49
  go_wp2
  go_loop [3, 4] (fun s i => ∃ k : Nat, (k = 0 ∨ (k : Int) ≤ n) ∧ i = .int .i64 k ∧ s = .string (Bk.manyS 32 k)) (fun _ i => n.toNat - (intOf i).toNat)
  case atStart => exact ⟨0, .inl rfl, rfl, rfl⟩
  case round =>
    obtain ⟨k, hk, rfl, rfl⟩ := hrel
    have hz : (Bk.manyS 32 k).size ≤ k := by rw [Bk.manyS_size]; omega
    by_cases hlt : (k : Int) < n
    · go_wp2
      go_round
      case rel => exact ⟨k + 1, .inr (by omega), by go_num, rfl⟩
      case measure => simp [intOf]; omega
    · have hE : Hid (k = n.toNat) := Lib.hid (by omega)
      go_wp2
      go_ret
      exact ⟨ret_str (by rw [hE.out]), rfl⟩
set_option maxHeartbeats 400000 in
theorem feeds_any (n : Int) (w : World) (hn : n ≤ 1000000000) :
    Calls Try.prog 60 #[.int .i64 n] w fun e w' => e = .returned (.string (Bk.manyS 10 n.toNat)) ∧ w = w' := by
  have hone : ({ data := #[10] } : ByteArray).size ≤ 1 := by decide
  go_enter Try.func60, Try.ntmps60
  go_wp2
  go_loop [3, 4] (fun s i => ∃ k : Nat, (k = 0 ∨ (k : Int) ≤ n) ∧ i = .int .i64 k ∧ s = .string (Bk.manyS 10 k)) (fun _ i => n.toNat - (intOf i).toNat)
  case atStart => exact ⟨0, .inl rfl, rfl, rfl⟩
  case round =>
    obtain ⟨k, hk, rfl, rfl⟩ := hrel
    have hz : (Bk.manyS 10 k).size ≤ k := by rw [Bk.manyS_size]; omega
    by_cases hlt : (k : Int) < n
    · go_wp2
      go_round
      case rel => exact ⟨k + 1, .inr (by omega), by go_num, rfl⟩
      case measure => simp [intOf]; omega
    · have hE : Hid (k = n.toNat) := Lib.hid (by omega)
      go_wp2
      go_ret
      exact ⟨ret_str (by rw [hE.out]), rfl⟩
end Go.Proofs.Ytmmhpejnfkienaa
