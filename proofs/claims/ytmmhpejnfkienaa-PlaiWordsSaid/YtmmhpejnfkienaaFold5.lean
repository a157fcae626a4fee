/- The document's FoldBlock; both where nothing is folded: contracts. -/
import Derived.Test.YtmmhpejnfkienaaFold4
namespace Go.Proofs.Ytmmhpejnfkienaa
open Go Go.RowKit Go.PlainAid
set_option linter.unusedVariables false
namespace Bk
/-- Rows, parted by line feeds. -/
def joinS (xs : List ByteArray) : Nat → ByteArray
  | 0 => ByteArray.empty
  | i + 1 => (if 0 < i then joinS xs i ++ ⟨#[10]⟩ else joinS xs i) ++ rowAt xs i
theorem joinS_le (xs : List ByteArray) : ∀ i, (joinS xs i).size ≤ sumZ xs i
  | 0 => Nat.le_refl _
  | i + 1 => by
    have ih := joinS_le xs i
    have q : ({ data := #[10] } : ByteArray).size = 1 := rfl
    unfold joinS
    by_cases h0 : 0 < i
    · rw [if_pos h0]; show (_ : ByteArray).size ≤ sumZ xs i + _ + 1; rw [size_app, size_app]; omega
    · rw [if_neg h0]; show (_ : ByteArray).size ≤ sumZ xs i + _ + 1; rw [size_app]; omega
theorem joinS_cons (x : ByteArray) (r : List ByteArray) : ∀ k, k ≤ r.length → (joinS (x :: r) (k + 1)).data.toList = x.data.toList ++ Lib.joinTail [10] ((r.map (·.data.toList)).take k)
  | 0, _ => by
    show (ByteArray.empty ++ x).data.toList = _
    rw [ByteArray.empty_append, List.take_zero]; simp [Lib.joinTail]
  | k + 1, h => by
    have ih := joinS_cons x r k (by omega)
    have hk : (r.map (·.data.toList))[k]? = some (rowAt (x :: r) (k + 1)).data.toList := by
      rw [List.getElem?_map, List.getElem?_eq_getElem (by omega)]
      show some _ = some _
      unfold rowAt
      rw [List.getD_eq_getElem?_getD, List.getElem?_cons_succ, List.getElem?_eq_getElem (by omega)]
      rfl
    rw [Lib.joinTail_take_succ _ _ _ _ hk]
    show ((if 0 < k + 1 then joinS (x :: r) (k + 1) ++ ⟨#[10]⟩ else joinS (x :: r) (k + 1)) ++ rowAt (x :: r) (k + 1)).data.toList = _
    rw [if_pos (by omega), app_list, app_list, ih]
    simp
theorem join_is (xs : List ByteArray) : (Lib.join (xs.map (·.data.toList)) [10]) = (joinS xs xs.length).data.toList := by
  cases xs with
  | nil => rfl
  | cons x r =>
    rw [List.map_cons, Lib.join_cons, List.length_cons, joinS_cons x r r.length (Nat.le_refl _), List.take_of_length_le (by simp)]
end Bk
set_option maxRecDepth 20000 in
set_option maxHeartbeats 3200000 in
theorem keep57_any (a : Option Addr) (len cap : Nat) (xs : List ByteArray) (w : World) (hx : StrsAt w a len xs) (hz : Bk.sumZ xs len ≤ 140737488355328) (hcap : len ≤ cap) :
    Calls Try.prog 57 #[.slice a len cap, .bool false] w fun e w' => e = .returned (.string (Bk.joinS xs len)) ∧ Below w.heap.size w w' := by
  obtain ⟨hlen, hmax, hx⟩ := hx
  have hj := Bk.joinS_le xs len
  rcases hx with rfl | ⟨b, off, rfl, hb, hc⟩
  · go_enter Try.func57, Try.ntmps57
    go_wp2_with (go_at_call 81; refine (Try.strings_Join_none _ _ _ _).mono ?_; rintro e w' ⟨rfl, rfl⟩)
    go_ret
    exact ⟨rfl, by go_grown⟩
  · subst hlen
    have hJ : ∀ w2, w2 = w → Calls Try.prog 81 #[.slice (some ⟨b, off, none⟩) xs.length cap, .string ⟨#[10]⟩] w2 fun e w' => e = .returned (.string (Bk.joinS xs xs.length)) ∧ Below w.heap.size w w' := by
      rintro w2 rfl
      refine (Try.strings_Join b off cap xs ⟨#[10]⟩ _ (fun j x hj => ?_) hb (by omega) hcap ?_).mono ?_
      · have hjl : j < xs.length := by
          rcases Nat.lt_or_ge j xs.length with h | h
          · exact h
          · rw [List.getElem?_eq_none h] at hj; cases hj
        have := hc j hjl
        rw [List.getD_eq_getElem?_getD, hj] at this
        exact this
      · show (Lib.join (xs.map (·.data.toList)) [10]).length ≤ _
        rw [Bk.join_is, ← Lib.size_eq]; omega
      · rintro e w' ⟨rfl, hg⟩
        refine ⟨ret_str ?_, hg⟩
        show (⟨(Lib.join (xs.map (·.data.toList)) [10]).toArray⟩ : ByteArray) = _
        rw [Bk.join_is, Lib.mk_data]
    have HJ := Lib.hid hJ
    clear hJ hj hc
    go_enter Try.func57, Try.ntmps57
    go_wp2_with (go_at_call 81; refine (HJ.out _ rfl).mono ?_; rintro e w' ⟨rfl, hg⟩)
    go_ret
    exact ⟨rfl, hg⟩
set_option maxRecDepth 20000 in
set_option maxHeartbeats 3200000 in
theorem rkeep58_any (a : Option Addr) (len cap : Nat) (xs : List ByteArray) (w : World) (hx : StrsAt w a len xs) (hz : Bk.sumZ xs len ≤ 140737488355328) :
    Calls Try.prog 58 #[.slice a len cap, .bool false] w fun e w' => e = .returned (.string (Bk.joinS xs len)) ∧ w = w' := by
  obtain ⟨hlen, hmax, hx⟩ := hx
  have HX := Lib.hid hx
  clear hx
  have q1 : ({ data := #[10] } : ByteArray).size = 1 := rfl
  go_enter Try.func58, Try.ntmps58
  go_wp2_with fail
  go_loop [5, 6] (fun s i => ∃ k : Nat, k ≤ len ∧ i = .int .i64 k ∧ s = .string (Bk.joinS xs k)) (fun _ i => len - (intOf i).toNat)
  case atStart => exact ⟨0, by omega, rfl, rfl⟩
  case round =>
    obtain ⟨k, hk, rfl, rfl⟩ := hrel
    by_cases hkl : k < len
    · rcases HX.out with h0 | ⟨b, off, rfl, hb, hc⟩
      · omega
      have hcell : w.cell? ⟨b, off + k, none⟩ = some (.string (Bk.rowAt xs k)) := hc k hkl
      have hs1 := Bk.sumZ_step (xs := xs) hkl
      have hs2 := Bk.joinS_le xs k
      have HN : Hid (Bk.joinS xs (k + 1) = (if 0 < k then Bk.joinS xs k ++ ⟨#[10]⟩ else Bk.joinS xs k) ++ Bk.rowAt xs k) := Lib.hid rfl
      generalize Bk.joinS xs k = acc at *
      generalize Bk.rowAt xs k = r at *
      have z1 := Bk.size_app acc ⟨#[10]⟩
      have hsz : acc.size + r.size + 1 ≤ 140737488355328 := by omega
      clear hs1 hs2 hc
      by_cases hk0 : k = 0
      · have HN2 : Hid (Bk.joinS xs (k + 1) = acc ++ r) := Lib.hid (by rw [HN.out, if_neg (by omega)])
        subst hk0
        rw [Nat.add_zero] at hcell
        go_wp2_with fail
        go_round
        case rel => exact ⟨1, by omega, by go_num, by rw [HN2.out]⟩
        case measure => simp [intOf]; omega
      · have HN2 : Hid (Bk.joinS xs (k + 1) = acc ++ ⟨#[10]⟩ ++ r) := Lib.hid (by rw [HN.out, if_pos (by omega)])
        go_wp2_with fail
        go_round
        case rel => exact ⟨k + 1, by omega, by go_num, by rw [HN2.out]⟩
        case measure => simp [intOf]; omega
    · obtain rfl : k = len := by omega
      go_wp2_with fail
      go_ret
      exact ⟨rfl, rfl⟩
set_option maxRecDepth 20000 in
set_option maxHeartbeats 3200000 in
theorem rblock58_any (a : Option Addr) (len cap : Nat) (xs : List ByteArray) (w : World) (hx : StrsAt w a len xs) (hz : Bk.sumZ xs len ≤ 140737488355328) :
    Calls Try.prog 58 #[.slice a len cap, .bool true] w fun e w' => e = .returned (.string (Bk.foldBlock xs)) ∧ w = w' := by
  obtain ⟨hlen, hmax, hx⟩ := hx
  have HX := Lib.hid hx
  clear hx
  have HL := Lib.hid hlen
  clear hlen
  have q1 : ({ data := #[32] } : ByteArray).size = 1 := rfl
  go_enter Try.func58, Try.ntmps58
  go_wp2_with fail
  go_loop [5, 7, 8, 9] (fun s l bl i => ∃ (k : Nat) (la : Int), k ≤ len ∧ i = .int .i64 k ∧ s = .string (Bk.blockSt xs k).1 ∧ bl = .int .i64 (Bk.blockSt xs k).2.1 ∧ l = .int .i64 la ∧
    Hid ((la = -1 ∧ (Bk.blockSt xs k).2.2.size = 0) ∨ ∃ j : Nat, j < k ∧ la = j ∧ Bk.rowAt xs j = (Bk.blockSt xs k).2.2 ∧ 0 < (Bk.blockSt xs k).2.2.size)) (fun _ _ _ i => len - (intOf i).toNat)
  case atStart => exact ⟨0, -1, by omega, rfl, rfl, rfl, rfl, Lib.hid (.inl ⟨rfl, rfl⟩)⟩
  case round =>
    obtain ⟨k, la0, hk, rfl, rfl, rfl, rfl, HA⟩ := hrel
    have hs2 := Bk.blockSt_le xs k
    by_cases hkl : k < len
    · rcases HX.out with h0 | ⟨b, off, rfl, hb, hc⟩
      · omega
      have hcell : w.cell? ⟨b, off + k, none⟩ = some (.string (Bk.rowAt xs k)) := hc k hkl
      have hs1 := Bk.sumZ_step (xs := xs) hkl
      have HN : Hid (Bk.blockSt xs (k + 1) = if (Bk.rowAt xs k).size = 0 then ((Bk.blockSt xs k).1, (Bk.blockSt xs k).2.1 + 1, (Bk.blockSt xs k).2.2)
        else ((Bk.blockSt xs k).1 ++ Bk.midS (Bk.blockSt xs k).2.2 (Bk.rowAt xs k) (Bk.blockSt xs k).2.1 ++ Bk.rowAt xs k, 0, Bk.rowAt xs k)) := Lib.hid rfl
      have HC := Lib.hid hc
      clear hc
      generalize Bk.blockSt xs k = st at *
      obtain ⟨acc, bl, la⟩ := st
      replace HA : Hid ((la0 = -1 ∧ la.size = 0) ∨ ∃ j : Nat, j < k ∧ la0 = j ∧ Bk.rowAt xs j = la ∧ 0 < la.size) := HA
      obtain ⟨r, hrq⟩ : ∃ r, r = Bk.rowAt xs k := ⟨_, rfl⟩
      rw [← hrq] at hcell hs1 HN
      have HR := Lib.hid hrq
      clear hrq
      have hb1 := get_bt r
      have hb2 := get_bt la
      have hsz : acc.size + bl + r.size + 1 ≤ 140737488355328 := by have h : acc.size + bl ≤ Bk.sumZ xs k := hs2; omega
      clear hs1 hs2
      by_cases hA : r.size = 0
      · have HN2 : Hid (Bk.blockSt xs (k + 1) = (acc, bl + 1, la)) := Lib.hid (by rw [HN.out, if_pos hA])
        have hr := Bk.no_text hA
        have HA2 : Hid ((la0 = -1 ∧ la.size = 0) ∨ ∃ j : Nat, j < k + 1 ∧ la0 = j ∧ Bk.rowAt xs j = la ∧ 0 < la.size) := Lib.hid (by
          rcases HA.out with h | ⟨j, h1, h2, h3⟩
          · exact .inl h
          · exact .inr ⟨j, by omega, h2, h3⟩)
        go_wp2_with fail
        go_round
        case rel => exact ⟨k + 1, la0, by omega, by go_num, by rw [HN2.out], by rw [HN2.out]; go_num, rfl, by rw [HN2.out]; exact HA2⟩
        case measure => simp [intOf]; omega
      · have hr := Bk.some_text (s := r) (by omega)
        have HN2 : Hid (Bk.blockSt xs (k + 1) = (acc ++ Bk.midS la r bl ++ r, 0, r)) := Lib.hid (by rw [HN.out, if_neg hA])
        have hrp : 0 < r.size := by omega
        have HA2 : Hid (((k : Int) = -1 ∧ r.size = 0) ∨ ∃ j : Nat, j < k + 1 ∧ (k : Int) = j ∧ Bk.rowAt xs j = r ∧ 0 < r.size) := Lib.hid (.inr ⟨k, by omega, rfl, HR.out.symm, hrp⟩)
        clear hA
        rcases HA.out with ⟨rfl, hl⟩ | ⟨j, hjk, rfl, hrj, hlp⟩
        · have HN3 : Hid (Bk.blockSt xs (k + 1) = (acc ++ Bk.manyS 10 bl ++ r, 0, r)) := Lib.hid (by rw [HN2.out]; unfold Bk.midS; rw [if_pos hl])
          have z1 := Bk.size_app acc (Bk.manyS 10 bl)
          have z2 := Bk.manyS_size 10 bl
          clear hl
          go_wp2_with (go_at_call 80; refine (rfeeds_nat bl _ (by omega)).mono ?_; rintro e w1 ⟨rfl, rfl⟩)
          go_round
          case rel => exact ⟨k + 1, k, by omega, by go_num, by rw [HN3.out], by rw [HN3.out]; rfl, rfl, by rw [HN3.out]; exact HA2⟩
          case measure => simp [intOf]; omega
        · have hcj : w.cell? ⟨b, off + j, none⟩ = some (.string la) := by rw [← hrj]; exact HC.out j (by omega)
          have hjl : j < len := by omega
          have HL0 : Hid (¬ la.size = 0) := Lib.hid (by omega)
          cases hw1 : Bk.whiteB (bt la 0) with
          | true =>
            have HN3 : Hid (Bk.blockSt xs (k + 1) = (acc ++ Bk.manyS 10 (bl + 1) ++ r, 0, r)) := Lib.hid (by rw [HN2.out]; unfold Bk.midS; rw [if_neg HL0.out, hw1, Bool.true_or, if_pos rfl])
            have z1 := Bk.size_app acc (Bk.manyS 10 (bl + 1))
            have z2 := Bk.manyS_size 10 (bl + 1)
            go_wp2_with first
              | (go_at_call 23; refine (rwhite_any _ _).mono ?_; rintro e w1 ⟨rfl, rfl⟩)
              | (go_at_call 80; rw [show ((bl : Int) + 1) = ((bl + 1 : Nat) : Int) from by omega]; refine (rfeeds_nat (bl + 1) _ (by omega)).mono ?_; rintro e w1 ⟨rfl, rfl⟩)
            go_round
            case rel => exact ⟨k + 1, k, by omega, by go_num, by rw [HN3.out], by rw [HN3.out]; rfl, rfl, by rw [HN3.out]; exact HA2⟩
            case measure => simp [intOf]; omega
          | false =>
            cases hw2 : Bk.whiteB (bt r 0) with
            | true =>
              have HN3 : Hid (Bk.blockSt xs (k + 1) = (acc ++ Bk.manyS 10 (bl + 1) ++ r, 0, r)) := Lib.hid (by rw [HN2.out]; unfold Bk.midS; rw [if_neg HL0.out, hw1, hw2, Bool.false_or, if_pos rfl])
              have z1 := Bk.size_app acc (Bk.manyS 10 (bl + 1))
              have z2 := Bk.manyS_size 10 (bl + 1)
              go_wp2_with first
                | (go_at_call 23; refine (rwhite_any _ _).mono ?_; rintro e w1 ⟨rfl, rfl⟩)
                | (go_at_call 80; rw [show ((bl : Int) + 1) = ((bl + 1 : Nat) : Int) from by omega]; refine (rfeeds_nat (bl + 1) _ (by omega)).mono ?_; rintro e w1 ⟨rfl, rfl⟩)
              go_round
              case rel => exact ⟨k + 1, k, by omega, by go_num, by rw [HN3.out], by rw [HN3.out]; rfl, rfl, by rw [HN3.out]; exact HA2⟩
              case measure => simp [intOf]; omega
            | false =>
              have HN3 : Hid (Bk.blockSt xs (k + 1) = (acc ++ Bk.gapS bl ++ r, 0, r)) := Lib.hid (by rw [HN2.out]; unfold Bk.midS; rw [if_neg HL0.out, hw1, hw2, Bool.false_or, if_neg (by decide)])
              by_cases hbl : bl = 0
              · subst hbl
                have HN4 : Hid (Bk.blockSt xs (k + 1) = (acc ++ ⟨#[32]⟩ ++ r, 0, r)) := HN3
                have z1 := Bk.size_app acc ⟨#[32]⟩
                go_wp2_with (go_at_call 23; refine (rwhite_any _ _).mono ?_; rintro e w1 ⟨rfl, rfl⟩)
                go_round
                case rel => exact ⟨k + 1, k, by omega, by go_num, by rw [HN4.out], by rw [HN4.out]; rfl, rfl, by rw [HN4.out]; exact HA2⟩
                case measure => simp [intOf]; omega
              · have HN4 : Hid (Bk.blockSt xs (k + 1) = (acc ++ Bk.manyS 10 bl ++ r, 0, r)) := Lib.hid (by rw [HN3.out]; unfold Bk.gapS; rw [if_neg hbl])
                have z1 := Bk.size_app acc (Bk.manyS 10 bl)
                have z2 := Bk.manyS_size 10 bl
                go_wp2_with first
                  | (go_at_call 23; refine (rwhite_any _ _).mono ?_; rintro e w1 ⟨rfl, rfl⟩)
                  | (go_at_call 80; refine (rfeeds_nat bl _ (by omega)).mono ?_; rintro e w1 ⟨rfl, rfl⟩)
                go_round
                case rel => exact ⟨k + 1, k, by omega, by go_num, by rw [HN4.out], by rw [HN4.out]; rfl, rfl, by rw [HN4.out]; exact HA2⟩
                case measure => simp [intOf]; omega
    · obtain rfl : k = len := by omega
      have hs3 : (Bk.blockSt xs k).1.size + (Bk.blockSt xs k).2.1 ≤ 140737488355328 := by omega
      have HE : Hid (Bk.foldBlock xs = (Bk.blockSt xs k).1 ++ Bk.manyS 10 (if (Bk.blockSt xs k).2.2.size = 0 then (Bk.blockSt xs k).2.1 - 1 else (Bk.blockSt xs k).2.1)) := Lib.hid (by unfold Bk.foldBlock; rw [HL.out])
      clear hs2
      generalize Bk.blockSt xs k = st at *
      obtain ⟨acc, bl, la⟩ := st
      replace HA : Hid ((la0 = -1 ∧ la.size = 0) ∨ ∃ j : Nat, j < k ∧ la0 = j ∧ Bk.rowAt xs j = la ∧ 0 < la.size) := HA
      replace hs3 : acc.size + bl ≤ 140737488355328 := hs3
      rcases HA.out with ⟨rfl, hl⟩ | ⟨j, hjk, rfl, hrj, hlp⟩
      · have HE2 : Hid (Bk.foldBlock xs = acc ++ Bk.manyS 10 (bl - 1)) := Lib.hid (by rw [HE.out]; show acc ++ Bk.manyS 10 (if la.size = 0 then _ else _) = _; rw [if_pos hl])
        have z1 := Bk.size_app acc (Bk.manyS 10 (bl - 1))
        have z2 := Bk.manyS_size 10 (bl - 1)
        clear hl
        by_cases hbl : bl = 0
        · subst hbl
          go_wp2_with (go_at_call 80; refine (rfeeds_nat 0 _ (by omega)).mono ?_; rintro e w1 ⟨rfl, rfl⟩)
          go_ret
          exact ⟨ret_str (by rw [HE2.out]), rfl⟩
        · have EB : Hid ((bl : Int) - 1 = ((bl - 1 : Nat) : Int)) := Lib.hid (by omega)
          go_wp2_with (go_at_call 80; rw [EB.out]; refine (rfeeds_nat (bl - 1) _ (by omega)).mono ?_; rintro e w1 ⟨rfl, rfl⟩)
          go_ret
          exact ⟨ret_str (by rw [HE2.out]), rfl⟩
      · have HE2 : Hid (Bk.foldBlock xs = acc ++ Bk.manyS 10 bl) := Lib.hid (by rw [HE.out]; show acc ++ Bk.manyS 10 (if la.size = 0 then _ else _) = _; rw [if_neg (by omega)])
        have z1 := Bk.size_app acc (Bk.manyS 10 bl)
        have z2 := Bk.manyS_size 10 bl
        go_wp2_with (go_at_call 80; refine (rfeeds_nat bl _ (by omega)).mono ?_; rintro e w1 ⟨rfl, rfl⟩)
        go_ret
        exact ⟨ret_str (by rw [HE2.out]), rfl⟩
end Go.Proofs.Ytmmhpejnfkienaa
