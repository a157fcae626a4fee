/- Read, Props and Alias at any place; same; awake: contracts. -/
import Derived.Test.YtmmhpejnfkienaaProp4
namespace Go.Proofs.Ytmmhpejnfkienaa
open Go Go.RowKit Go.PlainAid
set_option linter.unusedVariables false
namespace Bk
/-- All that Read tells of any place. -/
def readI (s : ByteArray) (a : Int) (flow : Bool) : ByteArray × ByteArray × Int × Int :=
  if a < 0 then (ByteArray.empty, ByteArray.empty, a, 0)
  else ((readP s flow (s.size + 1) a.toNat ByteArray.empty ByteArray.empty a.toNat).1, (readP s flow (s.size + 1) a.toNat ByteArray.empty ByteArray.empty a.toNat).2.1, ((readP s flow (s.size + 1) a.toNat ByteArray.empty ByteArray.empty a.toNat).2.2.1 : Int), (readP s flow (s.size + 1) a.toNat ByteArray.empty ByteArray.empty a.toNat).2.2.2)
def aliasI (s : ByteArray) (a : Int) : ByteArray × Int × Int :=
  if 0 ≤ a ∧ a < s.size ∧ bt s a.toNat = 42 ∧ nameN s (a + 1) ≠ 0 then (s.extract (a.toNat + 1) (a.toNat + 1 + nameN s (a + 1)), a + 1 + nameN s (a + 1), 0) else (ByteArray.empty, a, 5)
end Bk
def back4i (R : ByteArray × ByteArray × Int × Int) : Ending := .returned (.tuple #[.string R.1, .string R.2.1, .int .i64 R.2.2.1, .int .i64 R.2.2.2])
def back3i (R : ByteArray × Int × Int) : Ending := .returned (.tuple #[.string R.1, .int .i64 R.2.1, .int .i64 R.2.2])
set_option maxHeartbeats 800000 in
theorem one_neg (s a t : ByteArray) (p : Int) (w : World) (hp : p < 0) :
    Calls Try.prog 76 #[.pointer (some ⟨w.heap.size, 0, none⟩), .int .i64 p] (w.alloc (.cells #[.string s, .string a, .string t] 69)) fun e w' =>
      e = .returned (.tuple #[.int .i64 p, .int .i64 0]) ∧ w.alloc (.cells #[.string s, .string a, .string t] 69) = w' := by
  go_enter Try.func76, Try.ntmps76
  go_wp2_with fail
  go_ret2
  exact ⟨rfl, rfl⟩
set_option maxRecDepth 20000 in
set_option maxHeartbeats 800000 in
theorem read_neg (s : ByteArray) (p : Int) (flow : Bool) (w : World) (hp : p < 0) :
    Calls Try.prog 52 #[.string s, .int .i64 p, .bool flow] w fun e w' => e = back4i (ByteArray.empty, ByteArray.empty, p, 0) ∧ Below w.heap.size w w' := by
  go_enter Try.func52, Try.ntmps52
  go_wp2_with fail
  go_loopw [1, 11] (fun i j wr => i = .int .i64 p ∧ j = .int .i64 p ∧ wr = w.alloc (.cells #[.string s, .string ByteArray.empty, .string ByteArray.empty] 69)) (fun i _ _ => 0)
  case atStart => exact ⟨rfl, rfl, rfl⟩
  case round =>
    obtain ⟨rfl, rfl, rfl⟩ := hrel
    go_wp2_with (go_at_call 76; refine (one_neg _ _ _ _ _ hp).mono ?_; rintro e w' ⟨rfl, rfl⟩)
    go_quiet (fail)
    go_wp2_with fail
    refine bodyPost_ret (v := .tuple #[.string ByteArray.empty, .string ByteArray.empty, .int .i64 p, .int .i64 0]) (by simp [results, Try.results52, go_sem]; try rfl) rfl ⟨rfl, below_drewN (by go_grown) _⟩
set_option maxRecDepth 20000 in
set_option maxHeartbeats 800000 in
theorem rread_neg (s : ByteArray) (p : Int) (flow : Bool) (w : World) (hp : p < 0) :
    Calls Try.prog 74 #[.string s, .int .i64 p, .bool flow] w fun e w' => e = back4i (ByteArray.empty, ByteArray.empty, p, 0) ∧ w = w' := by
  go_enter Try.func74, Try.ntmps74
  go_wp2_with fail
  go_loop [10, 11, 12, 13] (fun i10 i11 i12 i13 => i10 = .string ByteArray.empty ∧ i11 = .string ByteArray.empty ∧ i12 = .int .i64 p ∧ i13 = .int .i64 p) (fun _ _ _ i => 0)
  case atStart => exact ⟨rfl, rfl, rfl, rfl⟩
  case round =>
    obtain ⟨rfl, rfl, rfl, rfl⟩ := hrel
    go_wp2_with fail
    refine bodyPost_ret (v := .tuple #[.string ByteArray.empty, .string ByteArray.empty, .int .i64 p, .int .i64 0]) (by simp [results, Try.results74, go_sem]; try rfl) rfl ⟨rfl, rfl⟩
theorem read_any (s : ByteArray) (a : Int) (flow : Bool) (w : World) (hs : s.size ≤ 4611686018427387903) (ha : a ≤ 9223372036854775807) :
    Calls Try.prog 52 #[.string s, .int .i64 a, .bool flow] w fun e w' => e = back4i (Bk.readI s a flow) ∧ Below w.heap.size w w' := by
  by_cases h : a < 0
  · refine (read_neg s a flow w h).mono fun e w' q => ⟨?_, q.2⟩
    rw [q.1]; unfold Bk.readI; rw [if_pos h]
  · obtain ⟨p, rfl⟩ := Int.eq_ofNat_of_zero_le (by omega : 0 ≤ a)
    refine (read_nat s p flow w hs (by omega)).mono fun e w' q => ⟨?_, q.2⟩
    rw [q.1]; unfold Bk.readI; rw [if_neg h]; rfl
theorem rread_any (s : ByteArray) (a : Int) (flow : Bool) (w : World) (hs : s.size ≤ 4611686018427387903) (ha : a ≤ 9223372036854775807) :
    Calls Try.prog 74 #[.string s, .int .i64 a, .bool flow] w fun e w' => e = back4i (Bk.readI s a flow) ∧ w = w' := by
  by_cases h : a < 0
  · refine (rread_neg s a flow w h).mono fun e w' q => ⟨?_, q.2⟩
    rw [q.1]; unfold Bk.readI; rw [if_pos h]
  · obtain ⟨p, rfl⟩ := Int.eq_ofNat_of_zero_le (by omega : 0 ≤ a)
    refine (rread_nat s p flow w hs (by omega)).mono fun e w' q => ⟨?_, q.2⟩
    rw [q.1]; unfold Bk.readI; rw [if_neg h]; rfl
namespace Bk
theorem alias_way (s : ByteArray) (a : Int) :
    (a < 0 ∧ Hid (aliasI s a = (ByteArray.empty, a, 5))) ∨
    (∃ p : Nat, a = p ∧ s.size ≤ p ∧ Hid (aliasI s a = (ByteArray.empty, a, 5))) ∨
    (∃ p : Nat, a = p ∧ p < s.size ∧ (bt s p != 42) = true ∧ Hid (aliasI s a = (ByteArray.empty, a, 5))) ∨
    (∃ p : Nat, a = p ∧ p < s.size ∧ (bt s p != 42) = false ∧ Hid (nameN s ((p + 1 : Nat) : Int) = 0) ∧ Hid (aliasI s a = (ByteArray.empty, a, 5))) ∨
    (∃ p n : Nat, a = p ∧ p < s.size ∧ (bt s p != 42) = false ∧ ((n : Int) == 0) = false ∧ p + 1 + n ≤ s.size ∧ Hid (nameN s ((p + 1 : Nat) : Int) = n) ∧ Hid (aliasI s a = (s.extract (p + 1) (p + 1 + n), ((p + 1 + n : Nat) : Int), 0))) := by
  by_cases h : a < 0
  · exact .inl ⟨h, Lib.hid (by unfold aliasI; rw [if_neg (by omega)])⟩
  · obtain ⟨p, rfl⟩ := Int.eq_ofNat_of_zero_le (by omega : 0 ≤ a)
    by_cases h1 : p < s.size
    · by_cases h2 : bt s p = 42
      · by_cases h3 : nameN s ((p + 1 : Nat) : Int) = 0
        · exact .inr (.inr (.inr (.inl ⟨p, rfl, h1, by rw [h2]; rfl, Lib.hid h3, Lib.hid (by unfold aliasI; rw [if_neg]; rintro ⟨_, _, _, q⟩; exact q h3)⟩)))
        · have := nameN_le (s := s) (k := p + 1) (by omega)
          refine .inr (.inr (.inr (.inr ⟨p, nameN s ((p + 1 : Nat) : Int), rfl, h1, by rw [h2]; rfl, by rw [beq_eq_false_iff_ne]; omega, this, Lib.hid rfl, Lib.hid ?_⟩)))
          unfold aliasI
          rw [if_pos ⟨by omega, by omega, h2, h3⟩]
          rfl
      · exact .inr (.inr (.inl ⟨p, rfl, h1, by simpa using h2, Lib.hid (by unfold aliasI; rw [if_neg]; rintro ⟨_, _, q, _⟩; exact h2 q)⟩))
    · exact .inr (.inl ⟨p, rfl, by omega, Lib.hid (by unfold aliasI; rw [if_neg (by omega)])⟩)
end Bk
set_option maxHeartbeats 1600000 in
theorem alias_any (s : ByteArray) (a : Int) (w : World) (hs : s.size ≤ 4611686018427387903) (ha : a ≤ 9223372036854775807) :
    Calls Try.prog 53 #[.string s, .int .i64 a] w fun e w' => e = back3i (Bk.aliasI s a) ∧ w = w' := by
  have hb := get_bt s
  have HW := Bk.alias_way s a
  obtain ⟨R, hR⟩ : ∃ R, R = Bk.aliasI s a := ⟨_, rfl⟩
  rw [← hR] at HW ⊢
  clear hR
  rcases HW with ⟨h, H⟩ | ⟨p, rfl, h, H⟩ | ⟨p, rfl, h, h2, H⟩ | ⟨p, rfl, h, h2, h3, H⟩ | ⟨p, n, rfl, h, h2, h4, h5, h3, H⟩
  · go_enter Try.func53, Try.ntmps53
    go_wp2_with fail
    go_ret3
    exact ⟨by rw [H.out]; rfl, rfl⟩
  · go_enter Try.func53, Try.ntmps53
    go_wp2_with fail
    go_ret3
    exact ⟨by rw [H.out]; rfl, rfl⟩
  · go_enter Try.func53, Try.ntmps53
    go_wp2_with fail
    go_ret3
    exact ⟨by rw [H.out]; rfl, rfl⟩
  · have E1 : Hid ((p : Int) + 1 = ((p + 1 : Nat) : Int)) := Lib.hid (by omega)
    go_enter Try.func53, Try.ntmps53
    go_wp2_with (go_at_call 35; rw [E1.out]; refine (name_any s _ _ (by omega) (by omega) (by omega)).mono ?_; rintro e w' ⟨rfl, rfl⟩; rw [h3.out])
    go_ret3
    exact ⟨by rw [H.out]; rfl, rfl⟩
  · have E1 : Hid ((p : Int) + 1 = ((p + 1 : Nat) : Int)) := Lib.hid (by omega)
    have E2 : Hid ((p : Int) + 1 + (n : Int) = ((p + 1 + n : Nat) : Int)) := Lib.hid (by omega)
    go_enter Try.func53, Try.ntmps53
    go_wp2_with (go_at_call 35; rw [E1.out]; refine (name_any s _ _ (by omega) (by omega) (by omega)).mono ?_; rintro e w' ⟨rfl, rfl⟩; rw [h3.out])
    go_ret3
    exact ⟨by rw [H.out]; show Ending.returned (.tuple #[_, .int .i64 ((p : Int) + 1 + (n : Int)), _]) = _; rw [E2.out]; rfl, rfl⟩
set_option maxHeartbeats 1600000 in
theorem ralias_any (s : ByteArray) (a : Int) (w : World) (hs : s.size ≤ 4611686018427387903) (ha : a ≤ 9223372036854775807) :
    Calls Try.prog 75 #[.string s, .int .i64 a] w fun e w' => e = back3i (Bk.aliasI s a) ∧ w = w' := by
  have hb := get_bt s
  have HW := Bk.alias_way s a
  obtain ⟨R, hR⟩ : ∃ R, R = Bk.aliasI s a := ⟨_, rfl⟩
  rw [← hR] at HW ⊢
  clear hR
  rcases HW with ⟨h, H⟩ | ⟨p, rfl, h, H⟩ | ⟨p, rfl, h, h2, H⟩ | ⟨p, rfl, h, h2, h3, H⟩ | ⟨p, n, rfl, h, h2, h4, h5, h3, H⟩
  · go_enter Try.func75, Try.ntmps75
    go_wp2_with fail
    go_ret3
    exact ⟨by rw [H.out]; rfl, rfl⟩
  · go_enter Try.func75, Try.ntmps75
    go_wp2_with fail
    go_ret3
    exact ⟨by rw [H.out]; rfl, rfl⟩
  · go_enter Try.func75, Try.ntmps75
    go_wp2_with fail
    go_ret3
    exact ⟨by rw [H.out]; rfl, rfl⟩
  · have E1 : Hid ((p : Int) + 1 = ((p + 1 : Nat) : Int)) := Lib.hid (by omega)
    go_enter Try.func75, Try.ntmps75
    go_wp2_with (go_at_call 36; rw [E1.out]; refine (rname_any s _ _ (by omega) (by omega)).mono ?_; rintro e w' ⟨rfl, rfl⟩; rw [h3.out])
    go_ret3
    exact ⟨by rw [H.out]; rfl, rfl⟩
  · have E1 : Hid ((p : Int) + 1 = ((p + 1 : Nat) : Int)) := Lib.hid (by omega)
    have E2 : Hid ((p : Int) + 1 + (n : Int) = ((p + 1 + n : Nat) : Int)) := Lib.hid (by omega)
    go_enter Try.func75, Try.ntmps75
    go_wp2_with (go_at_call 36; (try rw [E1.out]); refine (rname_any s _ _ (by omega) (by omega)).mono ?_; rintro e w' ⟨rfl, rfl⟩; rw [h3.out])
    go_ret3
    exact ⟨by rw [H.out]; show Ending.returned (.tuple #[_, .int .i64 ((p : Int) + 1 + (n : Int)), _]) = _; rw [E2.out]; rfl, rfl⟩
end Go.Proofs.Ytmmhpejnfkienaa
