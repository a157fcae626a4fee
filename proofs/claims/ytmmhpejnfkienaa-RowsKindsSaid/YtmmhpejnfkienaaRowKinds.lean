/- The law RowsKinds of chapter 7: its walk. -/
import Derived.Test.YtmmhpejnfkienaaRowPlain
import Derived.Test.YtmmhpejnfkienaaRowLaws
import Derived.BigQuiet
namespace Go.Proofs.Ytmmhpejnfkienaa
open Go Go.RowKit Go.PlainAid
namespace Bk
theorem kTexts_at : ∀ k, k < 14 → ([Value.string ⟨#[45, 45, 45]⟩, Value.string ⟨#[45, 45, 45, 32, 97]⟩, Value.string ⟨#[45, 45, 45, 9]⟩, Value.string ⟨#[46, 46, 46]⟩, Value.string ⟨#[46, 46, 46, 32, 35, 32, 98]⟩, Value.string ⟨#[45, 45, 45, 97]⟩, Value.string ⟨#[46, 46, 46, 46]⟩, Value.string ⟨#[]⟩, Value.string ⟨#[32, 9]⟩, Value.string ⟨#[35, 32, 99]⟩, Value.string ⟨#[9, 35]⟩, Value.string ⟨#[97, 32, 35, 32, 98]⟩, Value.string ⟨#[45]⟩, Value.string ⟨#[45, 32, 45, 45]⟩] : List Value)[k]? = some (.string (kTexts.getD k ByteArray.empty)) := by
  intro k hk
  have : (kTexts.map Value.string)[k]? = some (.string (kTexts.getD k ByteArray.empty)) := by
    have : k < kTexts.length := hk
    simp [this]
  exact this
theorem kKinds_at : ∀ k, k < 14 → ([Value.int .i64 3, Value.int .i64 3, Value.int .i64 3, Value.int .i64 4, Value.int .i64 4, Value.int .i64 5, Value.int .i64 5, Value.int .i64 1, Value.int .i64 1, Value.int .i64 2, Value.int .i64 2, Value.int .i64 5, Value.int .i64 5, Value.int .i64 5] : List Value)[k]? = some (.int .i64 (kKinds.getD k 0)) := by
  intro k hk
  have : (kKinds.map (Value.int .i64))[k]? = some (.int .i64 (kKinds.getD k 0)) := by
    have : k < kKinds.length := hk
    simp [this]
  exact this
theorem kTexts_size : ∀ k, k < 14 → (kTexts.getD k ByteArray.empty).size ≤ 7 := by decide +kernel
theorem kRow_kind {p : ByteArray} {k n : Nat} (hk : k < 14) (hn : n < 4) :
    kindN (p ++ ⟨#[10]⟩ ++ manyS 32 n ++ kTexts.getD k ByteArray.empty ++ ⟨#[10, 122]⟩) (heldN (p ++ ⟨#[10]⟩ ++ manyS 32 n ++ kTexts.getD k ByteArray.empty ++ ⟨#[10, 122]⟩) ((p.size : Int) + 1)) = (if 0 < n ∧ (kKinds.getD k 0 = 3 ∨ kKinds.getD k 0 = 4) then 5 else kKinds.getD k 0) ∧
    (inN (p ++ ⟨#[10]⟩ ++ manyS 32 n ++ kTexts.getD k ByteArray.empty ++ ⟨#[10, 122]⟩) (heldN (p ++ ⟨#[10]⟩ ++ manyS 32 n ++ kTexts.getD k ByteArray.empty ++ ⟨#[10, 122]⟩) ((p.size : Int) + 1)) = if (kTexts.getD k ByteArray.empty).toList = [32, 9] then n + 1 else n) ∧
    kindN (p ++ ⟨#[10]⟩ ++ manyS 32 n ++ kTexts.getD k ByteArray.empty ++ ⟨#[10, 122]⟩) (heldN (p ++ ⟨#[10]⟩ ++ manyS 32 n ++ kTexts.getD k ByteArray.empty ++ ⟨#[10, 122]⟩) ((p.size : Int) + 1 + (n : Int) + ((kTexts.getD k ByteArray.empty).size : Int) + 2)) = 5 := by
  have e : p ++ ⟨#[10]⟩ ++ manyS 32 n ++ kTexts.getD k ByteArray.empty ++ ⟨#[10, 122]⟩ = (p ++ ⟨#[10]⟩) ++ kRow k n := by
    unfold kRow; simp only [ByteArray.append_assoc]
  have hp : (p ++ ⟨#[10]⟩ : ByteArray).size = p.size + 1 := by rw [size_app]; rfl
  have h10 : bt (p ++ ⟨#[10]⟩) p.size = 10 := by rw [bt_right (Nat.le_refl _) (by show p.size < p.size + 1; omega), Nat.sub_self]; rfl
  have hz := sh_size (x := kRow k n) hp
  obtain ⟨a1, a2, a3, a4⟩ := kRow_is k hk n hn
  rw [e]
  have e1 : heldN ((p ++ ⟨#[10]⟩) ++ kRow k n) ((p.size : Int) + 1) = p.size + 1 + 0 := by unfold heldN; omega
  have hr : (kRow k n).size = n + (kTexts.getD k ByteArray.empty).size + 2 := by
    unfold kRow; rw [size_app, size_app, manyS_size]; rfl
  have e2 : heldN ((p ++ ⟨#[10]⟩) ++ kRow k n) ((p.size : Int) + 1 + (n : Int) + ((kTexts.getD k ByteArray.empty).size : Int) + 2) = p.size + 1 + (kRow k n).size := by unfold heldN; omega
  rw [e1, e2, sh_kind hp h10 (Nat.zero_le _), sh_in hp h10 (Nat.zero_le _), sh_kind hp h10 (Nat.le_refl _)]
  exact ⟨a1, a2, a3⟩
end Bk
theorem grown_drewN {W w : World} (h : Grown W w) (n : Nat) : Grown W (w.drewN n) := h
theorem blanks_nat (n : Nat) (w : World) (hn : n ≤ 1000000000) :
    Calls Try.prog 49 #[.int .i64 (n : Int)] w fun e w' => e = .returned (.string (Bk.manyS 32 n)) ∧ w' = w :=
  (blanks_any n w (by omega)).mono fun _ _ h => ⟨by rw [h.1, Int.toNat_natCast], h.2.symm⟩
set_option maxRecDepth 20000 in
set_option maxHeartbeats 3200000 in
theorem rowsKinds_walk (a b : Int) (p : ByteArray) (w : World) (hp0 : p.size ≤ maxLen) :
    Calls Try.prog 8 #[.int .i64 a, .int .i64 b, .string p] w fun e w' => e = .returned (.bool true) ∧ Grown w w' := by
  unfold maxLen at hp0
  by_cases hl : p.size ≤ 20
  · have hk := Bk.lowN_lt (x := a) (n := 14) (by omega)
    have hn := Bk.lowN_lt (x := b) (n := 4) (by omega)
    obtain ⟨k, hK⟩ : ∃ k, k = Bk.lowN a 14 := ⟨_, rfl⟩
    obtain ⟨n, hN⟩ : ∃ n, n = Bk.lowN b 4 := ⟨_, rfl⟩
    rw [← hK] at hk
    rw [← hN] at hn
    have HK := Lib.hid hK
    have HN := Lib.hid hN
    clear hK hN
    have HR := Lib.hid (Bk.kRow_kind (p := p) (k := k) (n := n) (by omega) (by omega))
    have ht := Bk.kTexts_at k (by omega)
    have hd := Bk.kKinds_at k (by omega)
    have hz := Bk.kTexts_size k (by omega)
    obtain ⟨t, hT⟩ : ∃ t, t = Bk.kTexts.getD k ByteArray.empty := ⟨_, rfl⟩
    obtain ⟨d, hD⟩ : ∃ d, d = Bk.kKinds.getD k 0 := ⟨_, rfl⟩
    rw [← hT] at HR ht hz
    rw [← hD] at HR hd
    clear hT hD
    have z1 : ({ data := #[10] } : ByteArray).size ≤ 1 := by decide
    have z2 : ({ data := #[10, 122] } : ByteArray).size ≤ 2 := by decide
    have z3 := Bk.manyS_size 32 n
    have z4 := Bk.size_app p ⟨#[10]⟩
    have z5 := Bk.size_app (p ++ ⟨#[10]⟩) (Bk.manyS 32 n)
    have z6 := Bk.size_app (p ++ ⟨#[10]⟩ ++ Bk.manyS 32 n) t
    have z7 := Bk.size_app (p ++ ⟨#[10]⟩ ++ Bk.manyS 32 n ++ t) ⟨#[10, 122]⟩
    have hs : (p ++ ⟨#[10]⟩ ++ Bk.manyS 32 n ++ t ++ ⟨#[10, 122]⟩ : ByteArray).size ≤ 4611686018427387903 := by omega
    obtain ⟨W, hW⟩ : ∃ W : Int, W = if 0 < n ∧ (d = 3 ∨ d = 4) then 5 else d := ⟨_, rfl⟩
    obtain ⟨I, hI⟩ : ∃ I : Nat, I = if t.toList = [32, 9] then n + 1 else n := ⟨_, rfl⟩
    rw [← hW, ← hI] at HR
    have hway : (n ≤ 0 ∧ W = d) ∨ (1 ≤ n ∧ d = 3 ∧ W = 5) ∨ (1 ≤ n ∧ d = 4 ∧ W = 5) ∨ (1 ≤ n ∧ (d == 3) = false ∧ (d == 4) = false ∧ W = d) := by
      by_cases h0 : n = 0
      · exact .inl ⟨by omega, by rw [hW, if_neg (by omega)]⟩
      · by_cases h3 : d = 3
        · exact .inr (.inl ⟨by omega, h3, by rw [hW, if_pos ⟨by omega, .inl h3⟩]⟩)
        · by_cases h4 : d = 4
          · exact .inr (.inr (.inl ⟨by omega, h4, by rw [hW, if_pos ⟨by omega, .inr h4⟩]⟩))
          · exact .inr (.inr (.inr ⟨by omega, by simpa using h3, by simpa using h4, by rw [hW, if_neg (by omega)]⟩))
    have hway2 : ((t.toList == [32, 9]) = true ∧ I = n + 1) ∨ ((t.toList == [32, 9]) = false ∧ I = n) := by
      by_cases h : t.toList = [32, 9]
      · exact .inl ⟨by simpa using h, by rw [hI, if_pos h]⟩
      · exact .inr ⟨by simpa using h, by rw [hI, if_neg h]⟩
    clear hW hI
    rcases hway with ⟨h0, hW⟩ | ⟨h0, h3, hW⟩ | ⟨h0, h3, hW⟩ | ⟨h0, h3, h4, hW⟩ <;> rcases hway2 with ⟨hq, hI⟩ | ⟨hq, hI⟩
    all_goals
      subst hW hI
      (try subst h3)
      go_enter Try.func8, Try.ntmps8
      go_wp2_with first
        | (go_at_call 32; with_reducible refine (low_any a 14 _ (by omega) (by omega)).mono ?_; rintro e w' ⟨rfl, rfl⟩; rw [← HK.out])
        | (go_at_call 32; with_reducible refine (low_any b 4 _ (by omega) (by omega)).mono ?_; rintro e w' ⟨rfl, rfl⟩; rw [← HN.out])
      go_quiet ((go_at_call 49; exact Calls.quiet_of_same (blanks_nat _ _ (by omega))))
      go_wp2_with first
        | (go_at_call 45; refine (kind_any _ _ _ hs).mono ?_; rintro e w' ⟨rfl, rfl⟩; first | rw [HR.out.1] | rw [HR.out.2.2])
        | (go_at_call 41; refine (in_any _ _ _ hs).mono ?_; rintro e w' ⟨rfl, rfl⟩; rw [HR.out.2.1])
        | (go_at_call 38; refine (awake7 _).mono ?_; rintro e w' ⟨rfl, rfl⟩)
      go_ret
      exact ⟨rfl, grown_drewN (by go_grown) _⟩
  · go_enter Try.func8, Try.ntmps8
    go_wp2_with (go_at_call 38; refine (awake7 _).mono ?_; rintro e w' ⟨rfl, rfl⟩)
    go_ret
    exact ⟨rfl, by go_grown⟩
end Go.Proofs.Ytmmhpejnfkienaa
