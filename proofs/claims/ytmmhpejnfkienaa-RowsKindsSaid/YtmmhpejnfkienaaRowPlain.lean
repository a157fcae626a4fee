/- Rows behind a row: what stands ahead of a row's beginning does not count. Plain. -/
import Derived.Test.YtmmhpejnfkienaaBase
namespace Go.Proofs.Ytmmhpejnfkienaa
open Go Go.RowKit Go.PlainAid
namespace Bk
section
variable {p x : ByteArray} {m : Nat} (hp : p.size = m + 1) (h10 : bt p m = 10)
include hp
theorem sh_bt {k : Nat} (hk : k < x.size) : bt (p ++ x) (m + 1 + k) = bt x k := by
  rw [bt_right (by omega) (by omega), hp, Nat.add_sub_cancel_left]
theorem sh_size : (p ++ x).size = m + 1 + x.size := by rw [size_app, hp]
include h10
theorem sh_from {k : Nat} (hk : k ≤ x.size) : fromN (p ++ x) (m + 1 + k) = m + 1 + fromN x k := by
  have hf := fromN_le x k
  refine fromN_eq (by omega) (fun j h1 h2 => ?_) (fun h0 => ?_)
  · rw [show j = m + 1 + (j - (m + 1)) from by omega, sh_bt hp (by omega)]
    exact fromN_all (k := k) (by omega) (by omega)
  · by_cases e : fromN x k = 0
    · rw [e, show m + 1 + 0 - 1 = m from by omega, bt_left (by omega)]; exact h10
    · rw [show m + 1 + fromN x k - 1 = m + 1 + (fromN x k - 1) from by omega, sh_bt hp (by omega)]
      exact fromN_end (by omega)
omit h10
theorem sh_to {k : Nat} (hk : k ≤ x.size) : toN (p ++ x) (m + 1 + k) = m + 1 + toN x k := by
  have hf := toN_ge x k
  have ht := toN_le hk
  have hz := sh_size (x := x) hp
  refine toN_eq (by omega) (by omega) (fun j h1 h2 => ?_) (fun h0 => ?_)
  · rw [show j = m + 1 + (j - (m + 1)) from by omega, sh_bt hp (by omega)]
    exact toN_all (k := k) (by omega) (by omega)
  · rw [sh_bt hp (by omega)]; exact toN_end (by omega)
theorem sh_first {f t : Nat} (ht : t ≤ x.size) (hf : f ≤ t) : firstN (p ++ x) (m + 1 + f) (m + 1 + t) = m + 1 + firstN x f t := by
  have h1 := firstN_ge x f t
  have h2 := firstN_le (s := x) hf
  refine firstN_eq (by omega) (by omega) (fun j h3 h4 => ?_) (fun h0 => ?_)
  · rw [show j = m + 1 + (j - (m + 1)) from by omega, sh_bt hp (by omega)]
    exact firstN_all (s := x) (k := f) (m := t) (by omega) (by omega)
  · rw [sh_bt hp (by omega)]; exact firstN_end (by omega)
theorem sh_ends {k : Nat} : endsB (p ++ x) ((m + 1 + k : Nat) : Int) = endsB x (k : Int) := by
  by_cases h : k < x.size
  · have e1 := ends_in (s := p ++ x) (k := m + 1 + k) (by rw [sh_size hp]; omega)
    rw [e1, ends_in h, sh_bt hp h]
  · have hz := sh_size (x := x) hp
    have e1 : endsB (p ++ x) ((m + 1 + k : Nat) : Int) = true := ends_out (.inr (by omega))
    have e2 : endsB x (k : Int) = true := ends_out (.inr (by omega))
    rw [e1, e2]
theorem sh_dash {k : Nat} {c : Int} : dash3 (p ++ x) (m + 1 + k) c = dash3 x k c := by
  unfold dash3
  by_cases h : k + 3 ≤ x.size
  · rw [decide_eq_true h, decide_eq_true (by rw [sh_size hp]; omega), sh_bt hp (by omega), show m + 1 + k + 1 = m + 1 + (k + 1) from by omega, show m + 1 + k + 2 = m + 1 + (k + 2) from by omega, sh_bt hp (by omega), sh_bt hp (by omega)]
  · rw [decide_eq_false h, decide_eq_false (by rw [sh_size hp]; omega)]; simp
theorem sh_mark {k : Nat} {c : Int} : markB (p ++ x) (m + 1 + k) c = markB x k c := by
  have := sh_ends (x := x) (k := k + 3) hp
  unfold markB
  rw [sh_dash hp, show ((m + 1 + k : Nat) : Int) + 3 = ((m + 1 + (k + 3) : Nat) : Int) from by omega, this]
  rfl
include h10
theorem sh_kind {k : Nat} (hk : k ≤ x.size) : kindN (p ++ x) (m + 1 + k) = kindN x k := by
  have hf := fromN_le x k
  have hg := toN_ge x k
  have ht := toN_le hk
  have h1 := firstN_ge x (fromN x k) (toN x k)
  have h2 := firstN_le (s := x) (k := fromN x k) (m := toN x k) (by omega)
  unfold kindN
  rw [sh_from hp h10 hk, sh_to hp hk, sh_mark hp, sh_mark hp, sh_first hp ht (by omega)]
  by_cases e : firstN x (fromN x k) (toN x k) = toN x k
  · rw [e]; simp
  · rw [sh_bt hp (by omega)]
    simp
theorem sh_in {k : Nat} (hk : k ≤ x.size) : inN (p ++ x) (m + 1 + k) = inN x k := by
  have hf := fromN_le x k
  have hg := toN_ge x k
  have ht := toN_le hk
  unfold inN
  rw [sh_from hp h10 hk, sh_to hp hk, show m + 1 + toN x k - (m + 1 + fromN x k) = toN x k - fromN x k from by omega]
  refine runP_eq (runP_le _ _ _) (fun j hj => ?_) (fun hj => ?_)
  · have h3 := runP_le (fun i => bt x i == 32) (toN x k - fromN x k) (fromN x k)
    have h4 := runP_all (fun i => bt x i == 32) _ _ _ hj
    show (bt (p ++ x) (m + 1 + fromN x k + j) == 32) = true
    rw [show m + 1 + fromN x k + j = m + 1 + (fromN x k + j) from by omega, sh_bt hp (by omega)]; exact h4
  · have h4 := runP_end (fun i => bt x i == 32) _ _ hj
    show (bt (p ++ x) (m + 1 + fromN x k + _) == 32) = false
    rw [Nat.add_assoc, sh_bt hp (by omega)]; exact h4
end
/-- The beginnings of rows, their kinds; rows of such, with blanks ahead. -/
def kTexts : List ByteArray := [⟨#[45, 45, 45]⟩, ⟨#[45, 45, 45, 32, 97]⟩, ⟨#[45, 45, 45, 9]⟩, ⟨#[46, 46, 46]⟩, ⟨#[46, 46, 46, 32, 35, 32, 98]⟩, ⟨#[45, 45, 45, 97]⟩, ⟨#[46, 46, 46, 46]⟩, ⟨#[]⟩, ⟨#[32, 9]⟩, ⟨#[35, 32, 99]⟩, ⟨#[9, 35]⟩, ⟨#[97, 32, 35, 32, 98]⟩, ⟨#[45]⟩, ⟨#[45, 32, 45, 45]⟩]
def kKinds : List Int := [3, 3, 3, 4, 4, 5, 5, 1, 1, 2, 2, 5, 5, 5]
def kRow (k n : Nat) : ByteArray := manyS 32 n ++ kTexts.getD k ByteArray.empty ++ ⟨#[10, 122]⟩
theorem kRow_is : ∀ k, k < 14 → ∀ n, n < 4 → kindN (kRow k n) 0 = (if 0 < n ∧ (kKinds.getD k 0 = 3 ∨ kKinds.getD k 0 = 4) then 5 else kKinds.getD k 0) ∧ inN (kRow k n) 0 = (if (kTexts.getD k ByteArray.empty).toList = [32, 9] then n + 1 else n) ∧ kindN (kRow k n) (kRow k n).size = 5 ∧ (kRow k n).size ≤ 12 := by
  decide +kernel
end Bk
end Go.Proofs.Ytmmhpejnfkienaa
