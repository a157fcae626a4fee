/- Texts put together, numbers held below another, words: plain functions; contracts of Low, WordOf, Blanks. -/
import Derived.Test.YthkpoiideiimaaaProg
import Derived.WalkKit
import Derived.WalkSpells
import Derived.WalkLawsBesides
import Derived.PlainAid
import Derived.Handy
import Derived.Outline
import Derived.Lib.Hide
import Derived.Below
namespace Go.Proofs.Ythkpoiideiimaaa
open Go Go.RowKit Go.PlainAid
set_option linter.unusedVariables false
namespace Bk
theorem size_app (a b : ByteArray) : (a ++ b).size = a.size + b.size := by simp
theorem bt_left {a b : ByteArray} {j : Nat} (h : j < a.size) : bt (a ++ b) j = bt a j := by
  rw [← get_bt a j h, ← get_bt (a ++ b) j (by rw [size_app]; omega)]
  simp [ByteArray.getElem_append_left h]
theorem bt_right {a b : ByteArray} {j : Nat} (h : a.size ≤ j) (h' : j < a.size + b.size) : bt (a ++ b) j = bt b (j - a.size) := by
  rw [← get_bt b (j - a.size) (by omega), ← get_bt (a ++ b) j (by rw [size_app]; omega)]
  simp [ByteArray.getElem_append_right h]
theorem ba_ext {a b : ByteArray} (h : a.size = b.size) (h1 : ∀ j, j < a.size → bt a j = bt b j) : a = b := by
  apply ByteArray.ext
  apply Array.ext
  · exact h
  · intro i h2 h3
    have e1 := get_bt a i h2
    have e2 := get_bt b i h3
    have e3 := h1 i h2
    rw [← e1, ← e2] at e3
    exact UInt8.toNat_inj.1 (by exact Int.ofNat.inj e3)
def two64 : Int := 18446744073709551616
/-- A number from 0 to below n. -/
def lowN (x n : Int) : Nat := (x % two64 % n).toNat
theorem lowN_lt {x : Int} {n : Int} (h : 0 < n) : (lowN x n : Int) < n := by
  unfold lowN
  have h1 := Int.emod_nonneg (x % two64) (by omega : n ≠ 0)
  have h2 := Int.emod_lt_of_pos (x % two64) h
  omega
theorem low_walk {x n : Int} (hn : 1 ≤ n) (hn' : n ≤ 1000000000) : wrap64 ((IntKind.u64.wrap x).tmod n) = (lowN x n : Int) := by
  have hl := lowN_lt (x := x) (n := n) (by omega)
  have h0 : 0 ≤ IntKind.u64.wrap x := by rw [IntKind.wrap_u64]; omega
  rw [Int.tmod_eq_emod_of_nonneg h0]
  have e : IntKind.u64.wrap x % n = (lowN x n : Int) := by
    unfold lowN two64
    rw [IntKind.wrap_u64]
    have h1 := Int.emod_nonneg (x % 18446744073709551616) (by omega : n ≠ 0)
    omega
  rw [e]
  exact IntWalk.wrap64_in _ ⟨by omega, by omega⟩
/-- So many of one byte. -/
def manyS (c : UInt8) : Nat → ByteArray
  | 0 => ByteArray.empty
  | n + 1 => manyS c n ++ ⟨#[c]⟩
theorem manyS_size (c : UInt8) : ∀ n, (manyS c n).size = n
  | 0 => rfl
  | n + 1 => by rw [manyS, size_app, manyS_size c n]; rfl
theorem manyS_bt (c : UInt8) : ∀ n j, j < n → bt (manyS c n) j = (c.toNat : Int)
  | 0, j, h => by omega
  | n + 1, j, h => by
    rw [manyS]
    by_cases e : j < n
    · rw [bt_left (by rw [manyS_size]; exact e)]; exact manyS_bt c n j e
    · have : j = n := by omega
      subst this
      rw [bt_right (by rw [manyS_size]; omega) (by rw [manyS_size]; show j < j + 1; omega), manyS_size, Nat.sub_self]; rfl
def w10 : List ByteArray := [⟨#[97]⟩, ⟨#[98, 99]⟩, ⟨#[100, 45, 101]⟩, ⟨#[102, 95, 103]⟩, ⟨#[104, 49]⟩, ⟨#[120, 121, 122]⟩, ⟨#[195, 169]⟩, ⟨#[107, 35, 108]⟩, ⟨#[109, 58, 110]⟩, ⟨#[111, 46, 112]⟩]
def wdAt (i : Nat) : ByteArray := w10.getD i ByteArray.empty
def wordS (x : Int) : ByteArray := wdAt (lowN x 10)
theorem w10_at : ∀ k, k < 10 → ([Value.string ⟨#[97]⟩, Value.string ⟨#[98, 99]⟩, Value.string ⟨#[100, 45, 101]⟩, Value.string ⟨#[102, 95, 103]⟩, Value.string ⟨#[104, 49]⟩, Value.string ⟨#[120, 121, 122]⟩, Value.string ⟨#[195, 169]⟩, Value.string ⟨#[107, 35, 108]⟩, Value.string ⟨#[109, 58, 110]⟩, Value.string ⟨#[111, 46, 112]⟩] : List Value)[k]? = some (.string (wdAt k)) ∧
    (wdAt k).size ≤ 3 ∧ 1 ≤ (wdAt k).size := by
  intro k hk
  rcases (by omega : k = 0 ∨ k = 1 ∨ k = 2 ∨ k = 3 ∨ k = 4 ∨ k = 5 ∨ k = 6 ∨ k = 7 ∨ k = 8 ∨ k = 9) with rfl | rfl | rfl | rfl | rfl | rfl | rfl | rfl | rfl | rfl
  all_goals exact ⟨rfl, by decide, by decide⟩
theorem wordS_is (x : Int) : (wordS x).size ≤ 3 ∧ 1 ≤ (wordS x).size :=
  (w10_at (lowN x 10) (by have := lowN_lt (x := x) (n := 10) (by omega); omega)).2
end Bk
theorem ret_int {k : IntKind} {a b : Int} (h : a = b) : Ending.returned (.int k a) = .returned (.int k b) := by rw [h]
theorem ret_bool {a b : Bool} (h : a = b) : Ending.returned (.bool a) = .returned (.bool b) := by rw [h]
theorem ret_str {a b : ByteArray} (h : a = b) : Ending.returned (.string a) = .returned (.string b) := by rw [h]
set_option maxHeartbeats 400000 in
theorem low_any (x n : Int) (w : World) (hn : 1 ≤ n) (hn' : n ≤ 1000000000) :
    Calls Try.prog 11 #[.int .i64 x, .int .i64 n] w fun e w' => e = .returned (.int .i64 (Bk.lowN x n : Nat)) ∧ w = w' := by
  go_enter Try.func11, Try.ntmps11
  go_wp2
  go_ret
  exact ⟨ret_int (Bk.low_walk hn hn'), rfl⟩
set_option maxHeartbeats 800000 in
theorem wordOf_any (x : Int) (w : World) :
    Calls Try.prog 16 #[.int .i64 x] w fun e w' => e = .returned (.string (Bk.wordS x)) ∧ Below w.heap.size w w' := by
  have hk := Bk.lowN_lt (x := x) (n := 10) (by omega)
  obtain ⟨hc, _, _⟩ := Bk.w10_at (Bk.lowN x 10) (by omega)
  have HS : Hid (Bk.wdAt (Bk.lowN x 10) = Bk.wordS x) := Lib.hid rfl
  rw [HS.out] at hc
  go_enter Try.func16, Try.ntmps16
  go_wp2_with (go_at_call 11; refine (low_any _ _ _ (by omega) (by omega)).mono ?_; rintro e w' ⟨rfl, rfl⟩)
  go_ret
  exact ⟨rfl, by go_grown⟩
set_option maxHeartbeats 400000 in
theorem blanks_any (n : Int) (w : World) (hn : n ≤ 1000000000) :
    Calls Try.prog 20 #[.int .i64 n] w fun e w' => e = .returned (.string (Bk.manyS 32 n.toNat)) ∧ w = w' := by
  have hone : ({ data := #[32] } : ByteArray).size ≤ 1 := by decide
  go_enter Try.func20, Try.ntmps20
  go_wp2
  go_loop [3, 4] (fun s i => ∃ k : Nat, (k = 0 ∨ (k : Int) ≤ n) ∧ i = .int .i64 k ∧ s = .string (Bk.manyS 32 k)) (fun _ i => n.toNat - (intOf i).toNat)
  case atStart => exact ⟨0, .inl rfl, rfl, rfl⟩
  case round =>
    obtain ⟨k, hk, rfl, rfl⟩ := hrel
    have hz : (Bk.manyS 32 k).size ≤ k := by rw [Bk.manyS_size]; omega
    by_cases hlt : (k : Int) < n
    · go_wp2
      go_round
      case rel => exact ⟨k + 1, .inr (by omega), by go_num, rfl⟩
      case measure => simp [intOf]; omega
    · have hE : Hid (k = n.toNat) := Lib.hid (by omega)
      go_wp2
      go_ret
      exact ⟨ret_str (by rw [hE.out]), rfl⟩
end Go.Proofs.Ythkpoiideiimaaa
