/- handle and Size of package hand: contracts. -/
import Derived.Test.YtmmhpejnfkienaaHand
namespace Go.Proofs.Ytmmhpejnfkienaa
open Go Go.RowKit Go.PlainAid
namespace Bk
theorem words_ext {s : ByteArray} {k : Nat} (h : k < s.size) : wordsN (s.extract k s.size) 0 = wordsN s k := by
  have hz := size_ext s k s.size (Nat.le_refl _)
  unfold wordsN
  rw [show (s.extract k s.size).size - (0 + 1) = s.size - (k + 1) from by omega]
  congr 1
  refine run_shift fun j hj => ?_
  show wordB (bt (s.extract k s.size) (0 + 1 + j)) = wordB (bt s (k + 1 + j))
  rw [bt_ext (Nat.le_refl _) (by omega), show k + (0 + 1 + j) = k + 1 + j from by omega]
theorem words_le {s : ByteArray} {k : Nat} (h : k < s.size) : k + wordsN s k ≤ s.size := by
  unfold wordsN
  have := runP_le (fun i => wordB (bt s i)) (s.size - (k + 1)) (k + 1); omega
theorem words_ge (s : ByteArray) (k : Nat) : 1 ≤ wordsN s k := by unfold wordsN; omega
theorem hand_ext {s : ByteArray} {k : Nat} (h : k < s.size) : handN (s.extract k s.size) 0 = handN s k := by
  have hz := size_ext s k s.size (Nat.le_refl _)
  unfold handN
  rw [words_ext h, Nat.zero_add, hz]
  by_cases e : k + wordsN s k < s.size
  · rw [bt_ext (Nat.le_refl _) (by omega)]
    by_cases e2 : bt s (k + wordsN s k) = 33
    · rw [if_pos ⟨by omega, e2⟩, if_pos ⟨by omega, e2⟩]
    · rw [if_neg (fun q => e2 q.2), if_neg (fun q => e2 q.2)]
  · rw [if_neg (fun q => by omega), if_neg (fun q => by omega)]
theorem hand_le {s : ByteArray} {k : Nat} : handN s k = 0 ∨ k + handN s k ≤ s.size := by
  unfold handN
  split
  · right; omega
  · left; rfl
theorem uris_le (s : ByteArray) (t : Bool) (k : Nat) : urisN s t k ≤ s.size - k := runP_le _ _ _
theorem size_le {s : ByteArray} {k : Nat} (h : k < s.size) : k + sizeN s k ≤ s.size ∧ 1 ≤ sizeN s k := by
  unfold sizeN
  have h1 := uris_le s true (k + handN s k)
  have h2 := uris_le s true (k + 1)
  have h3 := hand_le (s := s) (k := k)
  split
  · omega
  · split <;> omega
end Bk
set_option maxHeartbeats 1600000 in
theorem handle_any (s : ByteArray) (w : World) (hs : s.size ≤ 4611686018427387903) (h0 : 1 ≤ s.size) :
    Calls Try.prog 108 #[.string s] w fun e w' => e = .returned (.int .i64 (Bk.handN s 0 : Nat)) ∧ w = w' := by
  have hb := get_bt s
  have HW : Hid (Bk.wordsN s 0 = 1 + Bk.runP (fun i => Bk.wordB (bt s i)) (s.size - 1) 1) := Lib.hid rfl
  have HH : Hid (Bk.handN s 0 = if Bk.wordsN s 0 < s.size ∧ bt s (Bk.wordsN s 0) = 33 then Bk.wordsN s 0 + 1 else 0) := Lib.hid (by unfold Bk.handN; rw [Nat.zero_add])
  go_enter Try.func108, Try.ntmps108
  go_wp2
  go_loop [3] (fun i => ∃ n : Nat, 1 ≤ n ∧ n ≤ s.size ∧ i = .int .i64 n ∧ Hid (∀ j, j < n - 1 → Bk.wordB (bt s (1 + j)) = true)) (fun i => s.size - (intOf i).toNat)
  case atStart => exact ⟨1, by omega, by omega, rfl, Lib.hid fun j h => absurd h (by omega)⟩
  case round =>
    obtain ⟨n, h1, hn, rfl, H⟩ := hrel
    by_cases hlt : n < s.size
    · cases hw : Bk.wordB (bt s n) with
      | true =>
        have HK : Hid (Bk.wordB (bt s n) = true) := Lib.hid hw
        go_wp2_with (go_at_call 28; refine (word_any _ _).mono ?_; rintro e w' ⟨rfl, rfl⟩)
        go_round
        case rel =>
          refine ⟨n + 1, by omega, by omega, by go_num, Lib.hid fun j hj => ?_⟩
          by_cases e : j = n - 1
          · subst e; rw [show 1 + (n - 1) = n from by omega]; exact HK.out
          · exact H.out j (by omega)
        case measure => simp [intOf]; omega
      | false =>
        have hWn : Bk.wordsN s 0 = n := by
          rw [HW.out, Bk.runP_eq (p := fun i => Bk.wordB (bt s i)) (n := n - 1) (by omega) H.out (fun _ => by show Bk.wordB (bt s (1 + (n - 1))) = false; rw [show 1 + (n - 1) = n from by omega]; exact hw)]; omega
        have HWn := Lib.hid hWn
        clear hWn
        cases hc : (bt s n == 33) with
        | true =>
          have HE : Hid (Bk.handN s 0 = n + 1) := Lib.hid (by rw [HH.out, HWn.out, if_pos ⟨hlt, beq_iff_eq.1 hc⟩])
          go_wp2_with (go_at_call 28; refine (word_any _ _).mono ?_; rintro e w' ⟨rfl, rfl⟩)
          go_ret
          exact ⟨ret_int (by rw [HE.out]; omega), rfl⟩
        | false =>
          have HE : Hid (Bk.handN s 0 = 0) := Lib.hid (by rw [HH.out, HWn.out, if_neg (fun q => by have := q.2; rw [this] at hc; exact absurd hc (by decide))])
          go_wp2_with (go_at_call 28; refine (word_any _ _).mono ?_; rintro e w' ⟨rfl, rfl⟩)
          go_ret
          exact ⟨ret_int (by rw [HE.out]; rfl), rfl⟩
    · have hWn : Bk.wordsN s 0 = n := by
        rw [HW.out, Bk.runP_eq (p := fun i => Bk.wordB (bt s i)) (n := n - 1) (by omega) H.out (fun _ => by omega)]; omega
      have HE : Hid (Bk.handN s 0 = 0) := Lib.hid (by rw [HH.out, hWn, if_neg (fun q => hlt q.1)])
      clear hWn
      go_wp2
      go_ret
      exact ⟨ret_int (by rw [HE.out]; rfl), rfl⟩
namespace Bk
/-- The bytes of a text from a place on begin with "!<"; behind them. -/
theorem cut_yes {s : ByteArray} {k : Nat} (h : k + 1 < s.size) (h0 : bt s k = 33) (h1 : bt s (k + 1) = 60) :
    Lib.hasPrefix (s.extract k s.size).data.toList [33, 60] = true ∧ (⟨(Lib.trimPrefix (s.extract k s.size).data.toList [33, 60]).toArray⟩ : ByteArray) = s.extract (k + 2) s.size := by
  have hlen : s.data.toList.length = s.size := by simp
  have hl : (s.extract k s.size).data.toList = s.data.toList.drop k := by
    simp [ByteArray.data_extract]
    rw [List.take_of_length_le (by simp)]
  have e0 := get_bt s k (by omega)
  have e1 := get_bt s (k + 1) (by omega)
  have b0 : s[k] = 33 := UInt8.toNat_inj.1 (by show s[k].toNat = 33; omega)
  have b1 : s[k + 1] = 60 := UInt8.toNat_inj.1 (by show s[k + 1].toNat = 60; omega)
  have hd : s.data.toList.drop k = 33 :: 60 :: s.data.toList.drop (k + 2) := by
    rw [List.drop_eq_getElem_cons (by omega), List.drop_eq_getElem_cons (by omega)]
    congr 1
    congr 1
  have hp : Lib.hasPrefix (s.extract k s.size).data.toList [33, 60] = true := by rw [hl, hd]; simp [Lib.hasPrefix, List.isPrefixOf]
  refine ⟨hp, ?_⟩
  unfold Lib.trimPrefix
  rw [if_pos hp, hl, hd]
  apply ByteArray.ext
  apply Array.toList_inj.1
  simp [ByteArray.data_extract]
  rw [List.take_of_length_le (by simp)]
theorem cut_no {s : ByteArray} {k : Nat} (h : k < s.size) (h1 : ¬ (k + 1 < s.size ∧ bt s (k + 1) = 60)) :
    Lib.hasPrefix (s.extract k s.size).data.toList [33, 60] = false := by
  have hlen : s.data.toList.length = s.size := by simp
  have hl : (s.extract k s.size).data.toList = s.data.toList.drop k := by
    simp [ByteArray.data_extract]
    rw [List.take_of_length_le (by simp)]
  rw [hl]
  by_cases h2 : k + 1 < s.size
  · have h3 : ¬ bt s (k + 1) = 60 := fun q => h1 ⟨h2, q⟩
    have e1 := get_bt s (k + 1) (by omega)
    rw [List.drop_eq_getElem_cons (by omega), List.drop_eq_getElem_cons (by omega)]
    have b1 : ¬ ((60 : UInt8) = s.data.toList[k + 1]) := by
      intro q
      apply h3
      rw [← e1]
      have : s[k + 1] = s.data.toList[k + 1] := rfl
      rw [this, ← q]; rfl
    simp [Lib.hasPrefix, List.isPrefixOf]
    intro _ q
    exact absurd q b1
  · rw [List.drop_eq_getElem_cons (by omega), List.drop_eq_nil_of_le (by omega)]
    simp [Lib.hasPrefix, List.isPrefixOf]
theorem drop_ext (s : ByteArray) (k : Nat) : (s.extract k s.size).data.toList = s.data.toList.drop k := by
  simp [ByteArray.data_extract]
  rw [List.take_of_length_le (by simp)]
theorem ext_ext {s : ByteArray} {k n : Nat} (h : k ≤ s.size) : (s.extract k s.size).extract n (s.size - k) = s.extract (k + n) s.size := by
  apply ByteArray.ext
  simp [ByteArray.data_extract, Array.extract_extract]
  congr 1
  omega
theorem gt_is {s : ByteArray} {k n : Nat} (h : k + n ≤ s.size) : Lib.hasPrefix ((s.extract k s.size).extract n (s.size - k)).data.toList [62] = (decide (k + n < s.size) && bt s (k + n) == 62) := by
  have hlen : s.data.toList.length = s.size := by simp
  have hl : ((s.extract k s.size).extract n (s.size - k)).data.toList = s.data.toList.drop (k + n) := by
    rw [ext_ext (by omega), drop_ext]
  rw [hl]
  by_cases e : k + n < s.size
  · have e1 := get_bt s (k + n) e
    rw [List.drop_eq_getElem_cons (by omega), decide_eq_true e, Bool.true_and, ← e1]
    simp only [Lib.hasPrefix, List.isPrefixOf, Bool.and_true]
    rw [Bool.eq_iff_iff]
    simp only [beq_iff_eq]
    constructor
    · intro q; have : s[k + n] = s.data.toList[k + n] := rfl
      rw [this, ← q]; rfl
    · intro q; exact (UInt8.toNat_inj.1 (by have : s[k + n] = s.data.toList[k + n] := rfl
                                            rw [← this]; show 62 = s[k + n].toNat; omega))
  · rw [List.drop_eq_nil_of_le (by omega), decide_eq_false e]; rfl
def gtB (s : ByteArray) (i : Nat) : Bool := decide (i < s.size) && bt s i == 62
end Bk
theorem cut_c1 {s : ByteArray} {k : Nat} (w : World) (h : k + 1 < s.size) (h0 : bt s k = 33) (h1 : bt s (k + 1) = 60) :
    Calls Try.prog 106 #[.string (s.extract k s.size), .string ⟨#[33, 60]⟩] w fun e w' => e = .returned (.tuple #[.string (s.extract (k + 2) s.size), .bool true]) ∧ w = w' := by
  obtain ⟨p1, p2⟩ := Bk.cut_yes h h0 h1
  refine (Try.strings_CutPrefix _ _ _).mono fun e w' q => ⟨?_, q.2.symm⟩
  rw [q.1]
  show Ending.returned (.tuple #[.string ⟨(Lib.trimPrefix (s.extract k s.size).data.toList [33, 60]).toArray⟩, .bool (Lib.hasPrefix (s.extract k s.size).data.toList [33, 60])]) = _
  rw [p2, p1]
theorem cut_c2 {s : ByteArray} {k : Nat} (w : World) (h : k < s.size) (h1 : ¬ (k + 1 < s.size ∧ bt s (k + 1) = 60)) :
    Calls Try.prog 106 #[.string (s.extract k s.size), .string ⟨#[33, 60]⟩] w fun e w' => e = .returned (.tuple #[.string (s.extract k s.size), .bool false]) ∧ w = w' := by
  have p1 := Bk.cut_no h h1
  have p2 : (⟨(Lib.trimPrefix (s.extract k s.size).data.toList [33, 60]).toArray⟩ : ByteArray) = s.extract k s.size := by
    unfold Lib.trimPrefix
    rw [if_neg (by rw [p1]; decide)]
  refine (Try.strings_CutPrefix _ _ _).mono fun e w' q => ⟨?_, q.2.symm⟩
  rw [q.1]
  show Ending.returned (.tuple #[.string ⟨(Lib.trimPrefix (s.extract k s.size).data.toList [33, 60]).toArray⟩, .bool (Lib.hasPrefix (s.extract k s.size).data.toList [33, 60])]) = _
  rw [p2, p1]
theorem gt_c {s : ByteArray} {k n : Nat} (w : World) (h : k + n ≤ s.size) :
    Calls Try.prog 94 #[.string ((s.extract k s.size).extract n (s.size - k)), .string ⟨#[62]⟩] w fun e w' => e = .returned (.bool (Bk.gtB s (k + n))) ∧ w = w' := by
  refine (Try.strings_HasPrefix _ _ _).mono fun e w' q => ⟨?_, q.2.symm⟩
  rw [q.1]
  exact ret_bool (Bk.gt_is h)
theorem uris_c0 {s : ByteArray} {k : Nat} (tight : Bool) (w : World) (hs : s.size ≤ 4611686018427387903) (h : k ≤ s.size) :
    Calls Try.prog 107 #[.string (s.extract k s.size), .bool tight] w fun e w' => e = .returned (.int .i64 (Bk.urisN s tight k : Nat)) ∧ w = w' := by
  have := uris_any (s.extract k s.size) tight w (by rw [Bk.size_ext s k s.size (Nat.le_refl _)]; omega)
  rwa [Bk.uris_ext h] at this
theorem uris_c1 {s : ByteArray} {k n : Nat} (tight : Bool) (w : World) (hs : s.size ≤ 4611686018427387903) (h : k + n ≤ s.size) :
    Calls Try.prog 107 #[.string ((s.extract k s.size).extract n (s.size - k)), .bool tight] w fun e w' => e = .returned (.int .i64 (Bk.urisN s tight (k + n) : Nat)) ∧ w = w' := by
  rw [Bk.ext_ext (by omega)]
  exact uris_c0 tight w hs h
theorem handle_c {s : ByteArray} {k : Nat} (w : World) (hs : s.size ≤ 4611686018427387903) (h : k < s.size) :
    Calls Try.prog 108 #[.string (s.extract k s.size)] w fun e w' => e = .returned (.int .i64 (Bk.handN s k : Nat)) ∧ w = w' := by
  have hz := Bk.size_ext s k s.size (Nat.le_refl _)
  have := handle_any (s.extract k s.size) w (by omega) (by omega)
  rwa [Bk.hand_ext h] at this
set_option maxHeartbeats 3200000 in
theorem size_any (s : ByteArray) (k : Nat) (w : World) (hs : s.size ≤ 4611686018427387903) (hk : k < s.size) (h33 : bt s k = 33) :
    Calls Try.prog 96 #[.string s, .int .i64 k] w fun e w' => e = .returned (.int .i64 (Bk.sizeN s k : Nat)) ∧ w = w' := by
  have hz := Bk.size_ext s k s.size (Nat.le_refl _)
  have hz2 := Bk.size_ext s (k + 2) s.size (Nat.le_refl _)
  have hbs : (bt s k != 33) = false := by rw [h33]; rfl
  have HS : Hid (Bk.sizeN s k = if k + 1 < s.size ∧ bt s (k + 1) = 60 ∧ 0 < Bk.urisN s false (k + 2) ∧ k + 2 + Bk.urisN s false (k + 2) < s.size ∧ bt s (k + 2 + Bk.urisN s false (k + 2)) = 62 then Bk.urisN s false (k + 2) + 3
    else if 0 < Bk.handN s k ∧ 0 < Bk.urisN s true (k + Bk.handN s k) then Bk.handN s k + Bk.urisN s true (k + Bk.handN s k) else 1 + Bk.urisN s true (k + 1)) := Lib.hid rfl
  have hb := get_bt s
  have hh := Bk.hand_le (s := s) (k := k)
  have u1 := Bk.uris_le s true (k + Bk.handN s k)
  have u2 := Bk.uris_le s true (k + 1)
  have u3 := Bk.uris_le s false (k + 2)
  have H33 := Lib.hid h33
  clear h33
  have key : (k + 1 < s.size ∧ bt s (k + 1) = 60 ∧ 0 < Bk.urisN s false (k + 2) ∧ Bk.gtB s (k + 2 + Bk.urisN s false (k + 2)) = true) ∨
      (k + 1 < s.size ∧ bt s (k + 1) = 60 ∧ 0 < Bk.urisN s false (k + 2) ∧ Bk.gtB s (k + 2 + Bk.urisN s false (k + 2)) = false) ∨
      (k + 1 < s.size ∧ bt s (k + 1) = 60 ∧ Bk.urisN s false (k + 2) ≤ 0) ∨ ¬ (k + 1 < s.size ∧ bt s (k + 1) = 60) := by
    by_cases a : k + 1 < s.size ∧ bt s (k + 1) = 60
    · by_cases b : 0 < Bk.urisN s false (k + 2)
      · cases c : Bk.gtB s (k + 2 + Bk.urisN s false (k + 2))
        · exact .inr (.inl ⟨a.1, a.2, b, rfl⟩)
        · exact .inl ⟨a.1, a.2, b, rfl⟩
      · exact .inr (.inr (.inl ⟨a.1, a.2, by omega⟩))
    · exact .inr (.inr (.inr a))
  by_cases hY : k + 1 < s.size ∧ bt s (k + 1) = 60 ∧ 0 < Bk.urisN s false (k + 2) ∧ Bk.gtB s (k + 2 + Bk.urisN s false (k + 2)) = true
  · obtain ⟨c1, c2, c3, c4⟩ := hY
    clear key
    have HE : Hid (Bk.sizeN s k = Bk.urisN s false (k + 2) + 3) := Lib.hid (by
      have : k + 2 + Bk.urisN s false (k + 2) < s.size ∧ bt s (k + 2 + Bk.urisN s false (k + 2)) = 62 := by simpa [Bk.gtB] using c4
      rw [HS.out, if_pos ⟨c1, c2, c3, this⟩])
    have C2 := Lib.hid c2
    clear c2
    go_enter Try.func96, Try.ntmps96
    go_wp2_with first
      | (go_at_call 106; refine (cut_c1 _ c1 H33.out C2.out).mono ?_; rintro e w' ⟨rfl, rfl⟩)
      | (go_at_call 107; with_reducible refine (uris_c0 false _ hs (by omega)).mono ?_; rintro e w' ⟨rfl, rfl⟩)
      | (go_at_call 94; refine (gt_c _ (by omega)).mono ?_; rintro e w' ⟨rfl, rfl⟩)
    go_ret
    exact ⟨ret_int (by rw [HE.out]; omega), rfl⟩
  · have HE : Hid (Bk.sizeN s k = if 0 < Bk.handN s k ∧ 0 < Bk.urisN s true (k + Bk.handN s k) then Bk.handN s k + Bk.urisN s true (k + Bk.handN s k) else 1 + Bk.urisN s true (k + 1)) := Lib.hid (by
      rw [HS.out, if_neg]
      rintro ⟨q1, q2, q3, q4, q5⟩
      exact hY ⟨q1, q2, q3, by simp [Bk.gtB, q4, q5]⟩)
    have key2 : (0 < Bk.handN s k ∧ 0 < Bk.urisN s true (k + Bk.handN s k) ∧ Hid (Bk.sizeN s k = Bk.handN s k + Bk.urisN s true (k + Bk.handN s k))) ∨
        (0 < Bk.handN s k ∧ Bk.urisN s true (k + Bk.handN s k) ≤ 0 ∧ Hid (Bk.sizeN s k = 1 + Bk.urisN s true (k + 1))) ∨ (Bk.handN s k ≤ 0 ∧ Hid (Bk.sizeN s k = 1 + Bk.urisN s true (k + 1))) := by
      by_cases a : 0 < Bk.handN s k
      · by_cases b : 0 < Bk.urisN s true (k + Bk.handN s k)
        · exact .inl ⟨a, b, Lib.hid (by rw [HE.out, if_pos ⟨a, b⟩])⟩
        · exact .inr (.inl ⟨a, by omega, Lib.hid (by rw [HE.out, if_neg (fun q => b q.2)])⟩)
      · exact .inr (.inr ⟨by omega, Lib.hid (by rw [HE.out, if_neg (fun q => a q.1)])⟩)
    clear HE
    rcases key with k0 | ⟨c1, c2, c3, c4⟩ | ⟨c1, c2, c3⟩ | k3
    · exact absurd k0 hY
    · clear hY
      have C2 := Lib.hid c2
      clear c2
      rcases key2 with ⟨d1, d2, d3⟩ | ⟨d1, d2, d3⟩ | ⟨d1, d3⟩
      all_goals
        go_enter Try.func96, Try.ntmps96
        go_wp2_with first
          | (go_at_call 106; refine (cut_c1 _ c1 H33.out C2.out).mono ?_; rintro e w' ⟨rfl, rfl⟩)
          | (go_at_call 107; with_reducible refine (uris_c0 false _ hs (by omega)).mono ?_; rintro e w' ⟨rfl, rfl⟩)
          | (go_at_call 107; with_reducible refine (uris_c1 true _ hs (by omega)).mono ?_; rintro e w' ⟨rfl, rfl⟩)
          | (go_at_call 94; refine (gt_c _ (by omega)).mono ?_; rintro e w' ⟨rfl, rfl⟩)
          | (go_at_call 108; refine (handle_c _ hs hk).mono ?_; rintro e w' ⟨rfl, rfl⟩)
        go_ret
        exact ⟨ret_int (by rw [d3.out]; omega), rfl⟩
    · clear hY
      have C2 := Lib.hid c2
      clear c2
      rcases key2 with ⟨d1, d2, d3⟩ | ⟨d1, d2, d3⟩ | ⟨d1, d3⟩
      all_goals
        go_enter Try.func96, Try.ntmps96
        go_wp2_with first
          | (go_at_call 106; refine (cut_c1 _ c1 H33.out C2.out).mono ?_; rintro e w' ⟨rfl, rfl⟩)
          | (go_at_call 107; with_reducible refine (uris_c0 false _ hs (by omega)).mono ?_; rintro e w' ⟨rfl, rfl⟩)
          | (go_at_call 107; with_reducible refine (uris_c1 true _ hs (by omega)).mono ?_; rintro e w' ⟨rfl, rfl⟩)
          | (go_at_call 94; refine (gt_c _ (by omega)).mono ?_; rintro e w' ⟨rfl, rfl⟩)
          | (go_at_call 108; refine (handle_c _ hs hk).mono ?_; rintro e w' ⟨rfl, rfl⟩)
        go_ret
        exact ⟨ret_int (by rw [d3.out]; omega), rfl⟩
    · clear hY
      have K3 := Lib.hid k3
      clear k3
      rcases key2 with ⟨d1, d2, d3⟩ | ⟨d1, d2, d3⟩ | ⟨d1, d3⟩
      all_goals
        go_enter Try.func96, Try.ntmps96
        go_wp2_with first
          | (go_at_call 106; refine (cut_c2 _ hk K3.out).mono ?_; rintro e w' ⟨rfl, rfl⟩)
          | (go_at_call 107; with_reducible refine (uris_c1 true _ hs (by omega)).mono ?_; rintro e w' ⟨rfl, rfl⟩)
          | (go_at_call 108; refine (handle_c _ hs hk).mono ?_; rintro e w' ⟨rfl, rfl⟩)
        go_ret
        exact ⟨ret_int (by rw [d3.out]; omega), rfl⟩
end Go.Proofs.Ytmmhpejnfkienaa
