/- Row of package rows, by the library's own contracts. -/
import Derived.Test.YtmmhpejnfkienaaSign3
import Derived.Test.YtmmhpejnfkienaaShelf
import Derived.Lib.IndexLaws
namespace Go.Proofs.Ytmmhpejnfkienaa
open Go Go.RowKit Go.PlainAid
namespace Bk
theorem bt_bang {s : ByteArray} {j : Nat} (h : j < s.size) : ((s.data[j]!).toNat : Int) = bt s j := by
  rw [← get_bt s j h, getElem!_pos s.data j (by simpa using h)]; rfl
theorem size_ext (s : ByteArray) (a b : Nat) (h : b ≤ s.size) : (s.extract a b).size = b - a := by
  simp [ByteArray.size_extract]; omega
theorem bt_ext {s : ByteArray} {a b j : Nat} (h : b ≤ s.size) (hj : a + j < b) : bt (s.extract a b) j = bt s (a + j) := by
  have h1 : j < (s.extract a b).size := by rw [size_ext s a b h]; omega
  rw [← get_bt _ j h1, ← get_bt s (a + j) (by omega)]
  simp [ByteArray.getElem_extract]
theorem last_from {s : ByteArray} {h : Nat} (hh : h ≤ s.size) : Lib.lastIndexByte (s.extract 0 h) 10 = (fromN s h : Int) - 1 := by
  have hz := size_ext s 0 h hh
  rcases Lib.lastIndexByte_spec (s.extract 0 h) 10 with ⟨h1, h2⟩ | ⟨i, h0, h1, h2, h3⟩
  · have : fromN s h = 0 := by
      refine fromN_eq (Nat.zero_le _) (fun j _ hj => ?_) (fun h => absurd h (by omega))
      have := h2 j (by omega)
      rw [bt_bang (by omega), bt_ext hh (by omega), Nat.zero_add] at this
      exact this
    rw [h1, this]; rfl
  · have : fromN s h = i + 1 := by
      refine fromN_eq (by omega) (fun j ha hb => ?_) (fun _ => ?_)
      · have := h3 j (by omega) (by omega)
        rw [bt_bang (by omega), bt_ext hh (by omega), Nat.zero_add] at this
        exact this
      · rw [bt_bang (by omega), bt_ext hh (by omega), Nat.zero_add] at h2
        exact h2
    rw [h1, this]; omega
theorem list_at {s : ByteArray} {j : Nat} (h : j < s.size) : s.data.toList[j]? = some (s[j]) := by
  rw [Array.getElem?_toList, Array.getElem?_eq_getElem (by simpa using h)]; rfl
theorem list_end {s : ByteArray} {j : Nat} (h : s.size ≤ j) : s.data.toList[j]? = none := by
  rw [Array.getElem?_toList]; simpa using h
theorem byte_is {s : ByteArray} {j : Nat} (h : j < s.size) : (s.data.toList[j]? = some ((10 : Int).toNat.toUInt8)) ↔ bt s j = 10 := by
  rw [list_at h, ← get_bt s j h]
  constructor
  · intro e; rw [Option.some.inj e]; rfl
  · intro e
    congr 1
    have : (s[j]).toNat = 10 := by omega
    exact UInt8.toNat_inj.1 this
theorem index_none {s : ByteArray} {h : Nat} (hh : h ≤ s.size) (he : toN s h = s.size) : Lib.indexByte (s.extract h s.size).data.toList ((10 : Int).toNat.toUInt8) = -1 := by
  have hz := size_ext s h s.size (Nat.le_refl _)
  rcases (by omega : Lib.indexByte (s.extract h s.size).data.toList ((10 : Int).toNat.toUInt8) < 0 ∨ 0 ≤ Lib.indexByte (s.extract h s.size).data.toList ((10 : Int).toNat.toUInt8)) with h1 | h1
  · have := Lib.indexByte_ge (s.extract h s.size).data.toList ((10 : Int).toNat.toUInt8); omega
  · exfalso
    obtain ⟨o, ho⟩ := Int.eq_ofNat_of_zero_le h1
    have h2 := (Lib.indexByte_some ho).1
    by_cases hl : o < (s.extract h s.size).size
    · rw [byte_is hl, bt_ext (Nat.le_refl _) (by omega)] at h2
      exact toN_all (s := s) (k := h) (by omega) (by omega) h2
    · rw [list_end (by omega)] at h2; exact absurd h2 (by simp)
theorem index_some {s : ByteArray} {h : Nat} (hh : h ≤ s.size) (he : toN s h < s.size) : Lib.indexByte (s.extract h s.size).data.toList ((10 : Int).toNat.toUInt8) = (toN s h : Int) - (h : Int) := by
  have hz := size_ext s h s.size (Nat.le_refl _)
  have hg := toN_ge s h
  have h0 := toN_end he
  rcases (by omega : Lib.indexByte (s.extract h s.size).data.toList ((10 : Int).toNat.toUInt8) < 0 ∨ 0 ≤ Lib.indexByte (s.extract h s.size).data.toList ((10 : Int).toNat.toUInt8)) with h1 | h1
  · exfalso
    have h3 := Lib.indexByte_ge (s.extract h s.size).data.toList ((10 : Int).toNat.toUInt8)
    have h4 := Lib.indexByte_none (l := (s.extract h s.size).data.toList) (c := (10 : Int).toNat.toUInt8) (by omega) (toN s h - h)
    apply h4
    rw [byte_is (by omega), bt_ext (Nat.le_refl _) (by omega), show h + (toN s h - h) = toN s h from by omega]
    exact h0
  · obtain ⟨o, ho⟩ := Int.eq_ofNat_of_zero_le h1
    have h2 := Lib.indexByte_some ho
    rw [ho]
    have hl : o < (s.extract h s.size).size := by
      rcases Nat.lt_or_ge o (s.extract h s.size).size with h5 | h5
      · exact h5
      · rw [list_end (by omega)] at h2; exact absurd h2.1 (by simp)
    have a1 := h2.1
    rw [byte_is hl, bt_ext (Nat.le_refl _) (by omega)] at a1
    have : toN s h = h + o := by
      refine toN_eq (by omega) (by omega) (fun j ha hb => ?_) (fun _ => a1)
      have a2 := h2.2 (j - h) (by omega)
      rw [Ne, byte_is (by omega), bt_ext (Nat.le_refl _) (by omega), show h + (j - h) = j from by omega] at a2
      exact a2
    omega
end Bk
theorem ret_ints {k l : IntKind} {a b c d : Int} (h : a = b) (h' : c = d) : Ending.returned (.tuple #[.int k a, .int l c]) = .returned (.tuple #[.int k b, .int l d]) := by rw [h, h']
set_option maxHeartbeats 400000 in
theorem held_any (s : ByteArray) (a : Int) (w : World) :
    Calls Try.prog 67 #[.string s, .int .i64 a] w fun e w' => e = .returned (.int .i64 (Bk.heldN s a : Nat)) ∧ w = w' := by
  go_enter Try.func67, Try.ntmps67
  go_wp2
  go_ret
  exact ⟨ret_int (by unfold Bk.heldN; omega), rfl⟩
set_option maxHeartbeats 400000 in
theorem rheld_any (s : ByteArray) (a : Int) (w : World) :
    Calls Try.prog 70 #[.string s, .int .i64 a] w fun e w' => e = .returned (.int .i64 (Bk.heldN s a : Nat)) ∧ w = w' := by
  go_enter Try.func70, Try.ntmps70
  go_wp2
  go_ret
  exact ⟨ret_int (by unfold Bk.heldN; omega), rfl⟩
set_option maxHeartbeats 400000 in
theorem row_any (s : ByteArray) (a : Int) (w : World) (hs : s.size ≤ 4611686018427387903) :
    Calls Try.prog 39 #[.string s, .int .i64 a] w fun e w' => e = .returned (.tuple #[.int .i64 (Bk.fromN s (Bk.heldN s a) : Nat), .int .i64 (Bk.toN s (Bk.heldN s a) : Nat)]) ∧ w = w' := by
  have hh := Bk.heldN_le s a
  have hf := Bk.fromN_le s (Bk.heldN s a)
  have hg := Bk.toN_ge s (Bk.heldN s a)
  have hz := Bk.size_ext s 0 (Bk.heldN s a) hh
  have HL := Lib.hid (Bk.last_from hh)
  by_cases he : Bk.toN s (Bk.heldN s a) < s.size
  · have HI := Lib.hid (Bk.index_some hh he)
    go_enter Try.func39, Try.ntmps39
    go_wp2_with first
      | (go_at_call 67; refine (held_any _ _ _).mono ?_; rintro e w' ⟨rfl, rfl⟩)
      | (go_at_call 68; refine (Try.strings_LastIndexByte _ _ (by omega) _).mono ?_; rintro e w' ⟨rfl, rfl⟩; rw [HL.out])
      | (go_at_call 69; refine (Try.strings_IndexByte _ _ _).mono ?_; rintro e w' ⟨rfl, rfl⟩; rw [HI.out])
    go_ret2
    exact ⟨ret_ints rfl (by omega), rfl⟩
  · have hle := Bk.toN_le hh
    have hw : Bk.toN s (Bk.heldN s a) = s.size := by omega
    have HI := Lib.hid (Bk.index_none hh hw)
    have HW := Lib.hid hw
    clear hw
    go_enter Try.func39, Try.ntmps39
    go_wp2_with first
      | (go_at_call 67; refine (held_any _ _ _).mono ?_; rintro e w' ⟨rfl, rfl⟩)
      | (go_at_call 68; refine (Try.strings_LastIndexByte _ _ (by omega) _).mono ?_; rintro e w' ⟨rfl, rfl⟩; rw [HL.out])
      | (go_at_call 69; refine (Try.strings_IndexByte _ _ _).mono ?_; rintro e w' ⟨rfl, rfl⟩; rw [HI.out])
    go_ret2
    exact ⟨ret_ints rfl (by rw [HW.out]), rfl⟩
set_option maxHeartbeats 800000 in
theorem rrow_any (s : ByteArray) (a : Int) (w : World) (hs : s.size ≤ 4611686018427387903) :
    Calls Try.prog 40 #[.string s, .int .i64 a] w fun e w' => e = .returned (.tuple #[.int .i64 (Bk.fromN s (Bk.heldN s a) : Nat), .int .i64 (Bk.toN s (Bk.heldN s a) : Nat)]) ∧ w = w' := by
  have hb := get_bt s
  have hh := Bk.heldN_le s a
  obtain ⟨h, hq⟩ : ∃ h, h = Bk.heldN s a := ⟨_, rfl⟩
  rw [← hq] at hh ⊢
  have HQ := Lib.hid hq; clear hq
  go_enter Try.func40, Try.ntmps40
  go_wp2_with (go_at_call 70; refine (rheld_any _ _ _).mono ?_; rintro e w' ⟨rfl, rfl⟩; rw [← HQ.out])
  go_loop [6] (fun i => ∃ k : Nat, k ≤ h ∧ i = .int .i64 k ∧ Hid (∀ j, k ≤ j → j < h → bt s j ≠ 10)) (fun i => (intOf i).toNat)
  case atStart => exact ⟨h, Nat.le_refl _, rfl, Lib.hid fun j _ _ => by omega⟩
  case round =>
    obtain ⟨k, hk, rfl, H⟩ := hrel
    by_cases hp : 0 < k ∧ bt s (k - 1) ≠ 10
    · obtain ⟨hp, hq⟩ := hp
      have h1 : (bt s (k - 1) != 10) = true := by simpa using hq
      have HQ2 := Lib.hid hq; clear hq
      have e1 : ((k : Int) - 1).toNat = k - 1 := by omega
      go_wp2
      go_round
      case rel =>
        refine ⟨k - 1, by omega, by rw [Int.ofNat_sub (by omega)]; rfl, Lib.hid fun j hj hj' => ?_⟩
        by_cases e : j = k - 1
        · subst e; exact HQ2.out
        · exact H.out j (by omega) hj'
      case measure => simp [intOf]; omega
    · have HF := Lib.hid (Bk.fromN_eq hk H.out (fun h0 => by
        by_cases e : bt s (k - 1) = 10
        · exact e
        · exact absurd ⟨h0, e⟩ hp))
      have h1 : 0 < k → (bt s (k - 1) != 10) = false := fun h0 => by
        by_cases e : bt s (k - 1) = 10
        · simp [e]
        · exact absurd ⟨h0, e⟩ hp
      clear hp
      by_cases h0 : 0 < k
      all_goals
        (try have h2 := h1 h0)
        clear h1
        go_wp2
        go_loop [7] (fun i => ∃ m : Nat, h ≤ m ∧ m ≤ s.size ∧ i = .int .i64 m ∧ Hid (∀ j, h ≤ j → j < m → bt s j ≠ 10)) (fun i => s.size - (intOf i).toNat)
        case atStart => exact ⟨h, Nat.le_refl _, hh, rfl, Lib.hid fun j _ _ => by omega⟩
        case round =>
          obtain ⟨m, hm0, hm, rfl, HM⟩ := hrel
          by_cases hlt : m < s.size
          · by_cases hc : bt s m = 10
            · have HT := Lib.hid (Bk.toN_eq hm0 hm HM.out (fun _ => hc))
              have h3 : (bt s m != 10) = false := by simp [hc]
              clear hc
              go_wp2
              go_ret2
              exact ⟨ret_ints (by rw [HF.out]) (by rw [HT.out]), rfl⟩
            · have h3 : (bt s m != 10) = true := by simpa using hc
              have HC := Lib.hid hc; clear hc
              go_wp2
              go_round
              case rel =>
                refine ⟨m + 1, by omega, by omega, by go_num, Lib.hid fun j hj hj' => ?_⟩
                by_cases e : j = m
                · subst e; exact HC.out
                · exact HM.out j hj (by omega)
              case measure => simp [intOf]; omega
          · have HT := Lib.hid (Bk.toN_eq hm0 hm HM.out (fun h => absurd h hlt))
            go_wp2
            go_ret2
            exact ⟨ret_ints (by rw [HF.out]) (by rw [HT.out]), rfl⟩
end Go.Proofs.Ytmmhpejnfkienaa
