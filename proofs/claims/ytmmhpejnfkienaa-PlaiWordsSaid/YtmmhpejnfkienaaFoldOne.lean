/- The law FoldOne of chapter 6. -/
import Derived.Test.YtmmhpejnfkienaaFold7
namespace Go.Proofs.Ytmmhpejnfkienaa
open Go Go.RowKit Go.PlainAid
set_option linter.unusedVariables false
namespace Bk
/-- One row, blank ones ahead and behind. -/
def oneL (s : ByteArray) (m n : Nat) : List ByteArray := List.replicate m ByteArray.empty ++ [s] ++ List.replicate n ByteArray.empty
theorem oneL_length (s : ByteArray) (m n : Nat) : (oneL s m n).length = m + 1 + n := by simp [oneL]; omega
theorem row_lo {s : ByteArray} {m n i : Nat} (h : i < m) : rowAt (oneL s m n) i = ByteArray.empty := by
  unfold rowAt oneL
  rw [List.append_assoc, List.getD_eq_getElem?_getD, List.getElem?_append_left (by simpa using h)]
  simp [h]
theorem row_at (s : ByteArray) (m n : Nat) : rowAt (oneL s m n) m = s := by
  unfold rowAt oneL
  rw [List.append_assoc, List.getD_eq_getElem?_getD, List.getElem?_append_right (by simp)]
  simp
theorem row_hi {s : ByteArray} {m n j : Nat} (h : j < n) : rowAt (oneL s m n) (m + 1 + j) = ByteArray.empty := by
  unfold rowAt oneL
  rw [List.getD_eq_getElem?_getD, List.getElem?_append_right (by simp)]
  simp [h]
theorem block_lo (s : ByteArray) (m n : Nat) : ∀ i, i ≤ m → blockSt (oneL s m n) i = (ByteArray.empty, i, ByteArray.empty)
  | 0, _ => rfl
  | i + 1, h => by
    rw [blockSt, block_lo s m n i (by omega), row_lo (by omega), if_pos (show ByteArray.empty.size = 0 from rfl)]
theorem block_hi {s : ByteArray} (hs : ¬ s.size = 0) (m n : Nat) : ∀ j, j ≤ n → blockSt (oneL s m n) (m + 1 + j) = (manyS 10 m ++ s, j, s)
  | 0, _ => by
    rw [Nat.add_zero, blockSt, block_lo s m n m (Nat.le_refl _), row_at, if_neg hs]
    show (ByteArray.empty ++ midS ByteArray.empty s m ++ s, 0, s) = _
    rw [ByteArray.empty_append, midS, if_pos (show ByteArray.empty.size = 0 from rfl)]
  | j + 1, h => by
    rw [← Nat.add_assoc, blockSt, block_hi hs m n j (by omega), row_hi (by omega), if_pos (show ByteArray.empty.size = 0 from rfl)]
theorem block_one {s : ByteArray} (hs : ¬ s.size = 0) (m n : Nat) : foldBlock (oneL s m n) = manyS 10 m ++ s ++ manyS 10 n := by
  unfold foldBlock
  rw [oneL_length, block_hi hs m n n (Nat.le_refl _)]
  show manyS 10 m ++ s ++ manyS 10 (if s.size = 0 then _ else _) = _
  rw [if_neg hs]
theorem join_lo (s : ByteArray) (m n : Nat) : ∀ i, i ≤ m → joinS (oneL s m n) i = manyS 10 (i - 1)
  | 0, _ => rfl
  | i + 1, h => by
    rw [joinS, join_lo s m n i (by omega), row_lo (by omega), ByteArray.append_empty]
    by_cases h0 : 0 < i
    · rw [if_pos h0, show i + 1 - 1 = i - 1 + 1 from by omega]; rfl
    · rw [if_neg h0, show i = 0 from by omega]
theorem join_hi (s : ByteArray) (m n : Nat) : ∀ j, j ≤ n → joinS (oneL s m n) (m + 1 + j) = manyS 10 m ++ s ++ manyS 10 j
  | 0, _ => by
    rw [Nat.add_zero, joinS, join_lo s m n m (Nat.le_refl _), row_at]
    show _ = manyS 10 m ++ s ++ ByteArray.empty
    rw [ByteArray.append_empty]
    by_cases h0 : 0 < m
    · rw [if_pos h0, show m = m - 1 + 1 from by omega]; rfl
    · rw [if_neg h0, show m = 0 from by omega]
  | j + 1, h => by
    rw [← Nat.add_assoc, joinS, join_hi s m n j (by omega), row_hi (by omega), if_pos (by omega), ByteArray.append_empty, ByteArray.append_assoc, ← manyS]
theorem join_one (s : ByteArray) (m n : Nat) : joinS (oneL s m n) (m + 1 + n) = manyS 10 m ++ s ++ manyS 10 n := join_hi s m n n (Nat.le_refl _)
theorem flow_one (s : ByteArray) : foldFlow [s] = s := by
  show (flowSt [s] 1).1 = s
  have h : rowAt [s] 0 = s := rfl
  rw [flowSt, h, if_neg (by omega), if_neg (by omega)]
  show ByteArray.empty ++ s = s
  rw [ByteArray.empty_append]
theorem flow_none : foldFlow [] = ⟨#[]⟩ := by decide +kernel
theorem block_none : foldBlock [] = ⟨#[]⟩ := by decide +kernel
theorem sumZ_lo (s : ByteArray) (m n : Nat) : ∀ i, i ≤ m → sumZ (oneL s m n) i = i
  | 0, _ => rfl
  | i + 1, h => by rw [sumZ, sumZ_lo s m n i (by omega), row_lo (by omega)]; rfl
theorem sumZ_hi (s : ByteArray) (m n : Nat) : ∀ j, j ≤ n → sumZ (oneL s m n) (m + 1 + j) = m + s.size + 1 + j
  | 0, _ => by rw [Nat.add_zero, sumZ, sumZ_lo s m n m (Nat.le_refl _), row_at]
  | j + 1, h => by rw [← Nat.add_assoc, sumZ, sumZ_hi s m n j (by omega), row_hi (by omega)]; rfl
theorem rep_succ (x : ByteArray) (k : Nat) : List.replicate k x ++ [x] = List.replicate (k + 1) x := by
  rw [← List.replicate_succ']
theorem rep_own {B k : Nat} {v : Value} {w : World} (h : Own B v (List.replicate k ByteArray.empty ++ [⟨#[]⟩]) w) : Own B v (List.replicate (k + 1) ByteArray.empty) w := by
  rw [← rep_succ]; exact h
theorem one_own {B m j : Nat} {s : ByteArray} {v : Value} {w : World} (h : Own B v (oneL s m j ++ [⟨#[]⟩]) w) : Own B v (oneL s m (j + 1)) w := by
  have e : oneL s m (j + 1) = oneL s m j ++ [⟨#[]⟩] := by
    unfold oneL
    rw [← rep_succ, ← List.append_assoc]
    rfl
  rw [e]; exact h
end Bk
theorem strsAt_nil (w : World) : StrsAt w none 0 [] := ⟨rfl, by omega, .inl rfl⟩
theorem tab_one (w : World) (s : ByteArray) : StrsAt (w.alloc (.cells #[.string s] 9)) (some ⟨w.heap.size, 0, none⟩) 1 [s] := strsAt_tab w [s] (by simp)
theorem feeds_nat (n : Nat) (w : World) (hn : n ≤ 1000000000) :
    Calls Try.prog 60 #[.int .i64 n] w fun e w' => e = .returned (.string (Bk.manyS 10 n)) ∧ w' = w := by
  refine (feeds_any n w (by omega)).mono ?_
  rintro e w' ⟨rfl, rfl⟩
  exact ⟨rfl, rfl⟩
set_option maxRecDepth 20000 in
set_option maxHeartbeats 3200000 in
theorem foldOne_walk (s : ByteArray) (a b : Int) (w : World) (hs0 : s.size ≤ maxLen) :
    Calls Try.prog 16 #[.string s, .int .i64 a, .int .i64 b] w fun e w' => e = .returned (.bool true) ∧ Below w.heap.size w w' := by
  unfold maxLen at hs0
  by_cases h1 : s.size ≤ 60
  · by_cases h0 : s.size = 0
    · have hr := Bk.no_text h0
      go_enter Try.func16, Try.ntmps16
      go_wp2_with (go_at_call 54; refine (awake6 _).mono ?_; rintro e w' ⟨rfl, hg⟩)
      go_ret
      exact ⟨rfl, hg⟩
    · have hr := Bk.some_text (s := s) (by omega)
      have hm := Bk.lowN_lt (x := a) (n := 4) (by omega)
      have hn := Bk.lowN_lt (x := b) (n := 4) (by omega)
      obtain ⟨m, hmq⟩ : ∃ m, m = Bk.lowN a 4 := ⟨_, rfl⟩
      obtain ⟨n, hnq⟩ : ∃ n, n = Bk.lowN b 4 := ⟨_, rfl⟩
      rw [← hmq] at hm
      rw [← hnq] at hn
      have HM := Lib.hid hmq
      have HN := Lib.hid hnq
      clear hmq hnq
      replace hm : m < 4 := by omega
      replace hn : n < 4 := by omega
      have HS := Lib.hid h0
      clear h0
      go_enter Try.func16, Try.ntmps16
      go_wp2_with first
        | (go_at_call 32; with_reducible refine (low_any a 4 _ (by omega) (by omega)).mono ?_; rintro e w' ⟨rfl, rfl⟩; rw [← HM.out])
        | (go_at_call 32; with_reducible refine (low_any b 4 _ (by omega) (by omega)).mono ?_; rintro e w' ⟨rfl, rfl⟩; rw [← HN.out])
      go_loopw [9, 10] (fun v i wr => ∃ k : Nat, k ≤ m ∧ i = .int .i64 k ∧ Hid (Own w.heap.size v (List.replicate k ByteArray.empty) wr) ∧ Hid (Below w.heap.size w wr)) (fun _ i _ => m - (intOf i).toNat)
      case atStart => exact ⟨0, by omega, rfl, Lib.hid (own_nil _ _), Lib.hid (Below.refl _ _)⟩
      case round =>
        obtain ⟨k, hk, rfl, HO, HW⟩ := hrel
        by_cases hkm : k < m
        · go_wp2_with (at_builtin; refine app_one (w0 := w) rfl (.tmp 30) (.tmp 31) rfl _ _ ⟨#[]⟩ rfl rfl HO (by rw [List.length_replicate]; omega) HW ?_; intro v1 w1 HO1 HW1; replace HO1 := Lib.hid (Bk.rep_own HO1.out))
          go_roundw
          case rel => exact ⟨k + 1, by omega, by go_num, HO1, HW1⟩
          case measure => simp [intOf]; omega
        · obtain rfl : k = m := by omega
          go_wp2_with (at_builtin; refine app_one (w0 := w) rfl (.tmp 33) (.tmp 35) rfl _ _ s rfl rfl HO (by rw [List.length_replicate]; omega) HW ?_; intro v1 w1 HO1 HW1)
          go_loopw [9, 11] (fun v i wr => ∃ j : Nat, j ≤ n ∧ i = .int .i64 j ∧ Hid (Own w.heap.size v (Bk.oneL s k j) wr) ∧ Hid (Below w.heap.size w wr)) (fun _ i _ => n - (intOf i).toNat)
          case atStart => exact ⟨0, by omega, rfl, Lib.hid (by unfold Bk.oneL; rw [List.replicate_zero, List.append_nil]; exact HO1.out), HW1⟩
          case round =>
            obtain ⟨j, hj, rfl, HO2, HW2⟩ := hrel
            by_cases hjn : j < n
            · go_wp2_with (at_builtin; refine app_one (w0 := w) rfl (.tmp 42) (.tmp 43) rfl _ _ ⟨#[]⟩ rfl rfl HO2 (by rw [Bk.oneL_length]; omega) HW2 ?_; intro v3 w3 HO3 HW3; replace HO3 := Lib.hid (Bk.one_own HO3.out))
              go_roundw
              case rel => exact ⟨j + 1, by omega, by go_num, HO3, HW3⟩
              case measure => simp [intOf]; omega
            · obtain rfl : j = n := by omega
              obtain ⟨ad, cap, hv, hst, hcap⟩ := own_strs HO2.out (by rw [Bk.oneL_length]; omega)
              subst hv
              rw [Bk.oneL_length] at hst hcap
              have hZ : Bk.sumZ (Bk.oneL s k j) (k + 1 + j) ≤ 140737488355328 := by rw [Bk.sumZ_hi s k j j (Nat.le_refl _)]; omega
              have hZ1 : Bk.sumZ [s] 1 ≤ 140737488355328 := by show 0 + s.size + 1 ≤ _; omega
              have HZ := Lib.hid hZ
              have HZ1 := Lib.hid hZ1
              have HST := Lib.hid hst
              have HCAP := Lib.hid hcap
              clear hZ hZ1 hst hcap
              rw [Bk.oneL_length]
              have z1 := Bk.size_app (Bk.manyS 10 k) s
              have z2 := Bk.size_app (Bk.manyS 10 k ++ s) (Bk.manyS 10 j)
              have z3 := Bk.manyS_size 10 k
              have z4 := Bk.manyS_size 10 j
              go_wp2_with first
                | (go_at_call 60; with_reducible refine (feeds_nat k _ (by omega)).mono ?_; rintro e w' ⟨rfl, rfl⟩)
                | (go_at_call 60; with_reducible refine (feeds_nat j _ (by omega)).mono ?_; rintro e w' ⟨rfl, rfl⟩)
                | (go_at_call 55; with_reducible refine (flow55_any _ 1 1 _ _ (tab_one _ _) HZ1.out).mono ?_; rintro e w4 ⟨rfl, hg⟩; rw [Bk.flow_one]; have H4 := Lib.hid (below_tab HW2.out hg); have K4 := Lib.hid (below_tab (Below.refl _ _) hg); clear hg)
                | (go_at_call 57; with_reducible refine (block57_any _ _ _ _ _ (HST.out.below K4.out) HZ.out).mono ?_; rintro e w5 ⟨rfl, hg⟩; rw [Bk.block_one HS.out]; have H5 := Lib.hid (H4.out.trans (hg.mono H4.out.size)); have K5 := Lib.hid (K4.out.trans (hg.mono K4.out.size)); clear hg)
                | (go_at_call 57; with_reducible refine (keep57_any _ _ _ _ _ (HST.out.below K5.out) HZ.out HCAP.out).mono ?_; rintro e w6 ⟨rfl, hg⟩; rw [Bk.join_one]; have H6 := Lib.hid (H5.out.trans (hg.mono H5.out.size)); clear hg)
                | (go_at_call 55; refine (flow55_any none 0 0 [] _ (strsAt_nil _) (by decide)).mono ?_; rintro e w7 ⟨rfl, hg⟩; rw [Bk.flow_none]; have H7 := Lib.hid (H6.out.trans (hg.mono H6.out.size)); clear hg)
                | (go_at_call 57; refine (block57_any none 0 0 [] _ (strsAt_nil _) (by decide)).mono ?_; rintro e w8 ⟨rfl, hg⟩; rw [Bk.block_none]; have H8 := Lib.hid (H7.out.trans (hg.mono H7.out.size)); clear hg)
                | (go_at_call 54; refine (awake6 _).mono ?_; rintro e w9 ⟨rfl, hg⟩; have H9 := Lib.hid (H8.out.trans (hg.mono H8.out.size)); clear hg)
              go_ret
              exact ⟨rfl, H9.out⟩
  · go_enter Try.func16, Try.ntmps16
    go_wp2_with (go_at_call 54; refine (awake6 _).mono ?_; rintro e w' ⟨rfl, hg⟩)
    go_ret
    exact ⟨rfl, hg⟩
end Go.Proofs.Ytmmhpejnfkienaa
