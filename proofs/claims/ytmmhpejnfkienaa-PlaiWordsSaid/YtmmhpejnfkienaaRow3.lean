/- First, bare, begun: contracts. -/
import Derived.Test.YtmmhpejnfkienaaRow2
namespace Go.Proofs.Ytmmhpejnfkienaa
open Go Go.RowKit Go.PlainAid
set_option maxHeartbeats 800000 in
theorem rfirst_any (s : ByteArray) (f t : Nat) (w : World) (hs : s.size ≤ 4611686018427387903) (ht : t ≤ s.size) :
    Calls Try.prog 73 #[.string s, .int .i64 f, .int .i64 t] w fun e w' => e = .returned (.int .i64 (Bk.firstN s f t : Nat)) ∧ w = w' := by
  have hb := get_bt s
  go_enter Try.func73, Try.ntmps73
  go_wp2
  go_loop [1] (fun i => ∃ p : Nat, f ≤ p ∧ (p = f ∨ p ≤ t) ∧ i = .int .i64 p ∧ Hid (∀ j, f ≤ j → j < p → Bk.whiteB (bt s j) = true)) (fun i => t - (intOf i).toNat)
  case atStart => exact ⟨f, by omega, by omega, rfl, Lib.hid fun j _ _ => by omega⟩
  case round =>
    obtain ⟨p, hp, hp', rfl, H⟩ := hrel
    by_cases hlt : p < t
    · cases hw : Bk.whiteB (bt s p) with
      | true =>
        have HC : Hid (Bk.whiteB (bt s p) = true) := Lib.hid hw
        go_wp2_with (go_at_call 23; refine (rwhite_any _ _).mono ?_; rintro e w' ⟨rfl, rfl⟩)
        go_round
        case rel =>
          refine ⟨p + 1, by omega, by omega, by go_num, Lib.hid fun j hj hj' => ?_⟩
          by_cases e : j = p
          · subst e; exact HC.out
          · exact H.out j hj (by omega)
        case measure => simp [intOf]; omega
      | false =>
        have HE := Lib.hid (Bk.firstN_eq (m := t) hp (by omega) H.out (fun _ => hw))
        go_wp2_with (go_at_call 23; refine (rwhite_any _ _).mono ?_; rintro e w' ⟨rfl, rfl⟩)
        go_ret
        exact ⟨ret_int (by rw [HE.out]), rfl⟩
    · have HE : Hid (Bk.firstN s f t = p) := Lib.hid (by
        by_cases e : f ≤ t
        · exact Bk.firstN_eq (m := t) hp (by omega) H.out (fun h => absurd h hlt)
        · unfold Bk.firstN; rw [show t - f = 0 from by omega]; show f + 0 = p; omega)
      go_wp2
      go_ret
      exact ⟨ret_int (by rw [HE.out]), rfl⟩
namespace Bk
theorem ext_nil {s : ByteArray} {p : Nat} : (s.extract p p).toList = [] := by
  have : (s.extract p p).data.toList = [] := by simp
  rw [Lib.toList_data]; exact this
theorem ext_cons {s : ByteArray} {p t : Nat} (h : p < t) (h' : t ≤ s.size) : (s.extract p t).toList.isEmpty = false := by
  have hz := size_ext s p t h'
  rw [Lib.toList_data]
  cases hl : (s.extract p t).data.toList with
  | nil => exfalso; have : (s.extract p t).data.toList.length = 0 := by rw [hl]; rfl
           rw [Array.length_toList] at this; have h2 : (s.extract p t).size = 0 := this; omega
  | cons a l => rfl
theorem ext_tail {s : ByteArray} {p t : Nat} : (s.extract p t).extract 1 (t - p) = s.extract (p + 1) t := by
  apply ByteArray.ext
  simp [ByteArray.data_extract, Array.extract_extract]
  congr 1
  omega
theorem ext_empty (s : ByteArray) (p : Nat) : ByteArray.empty = s.extract p p := by
  apply ByteArray.ext
  simp
/-- A string's length. -/
def lenOf : Value → Nat
  | .string r => r.size
  | _ => 0
theorem bt_ext0 {s : ByteArray} {p t : Nat} (h : p < t) (h' : t ≤ s.size) : bt (s.extract p t) 0 = bt s p := by
  have := bt_ext (s := s) (a := p) (b := t) (j := 0) h' (by omega); rw [Nat.add_zero] at this; exact this
end Bk
theorem ret_str {a b : ByteArray} (h : a = b) : Ending.returned (.string a) = .returned (.string b) := by rw [h]
set_option maxHeartbeats 800000 in
theorem bare_any (s : ByteArray) (f t : Nat) (w : World) (ht : t ≤ s.size) (hf : f ≤ t) :
    Calls Try.prog 71 #[.string (s.extract f t)] w fun e w' => e = .returned (.string (s.extract (Bk.firstN s f t) t)) ∧ w = w' := by
  go_enter Try.func71, Try.ntmps71
  go_wp2
  go_loop [0] (fun r => ∃ p : Nat, f ≤ p ∧ p ≤ t ∧ r = .string (s.extract p t) ∧ Hid (∀ j, f ≤ j → j < p → Bk.whiteB (bt s j) = true)) (fun r => Bk.lenOf r)
  case atStart => exact ⟨f, by omega, hf, rfl, Lib.hid fun j _ _ => by omega⟩
  case round =>
    obtain ⟨p, hp, hp', rfl, H⟩ := hrel
    have hz := Bk.size_ext s p t ht
    have hb := get_bt (s.extract p t)
    by_cases hlt : p < t
    · have h0 := Bk.ext_cons hlt ht
      cases hw : Bk.whiteB (bt (s.extract p t) 0) with
      | true =>
        have HC : Hid (Bk.whiteB (bt (s.extract p t) 0) = true) := Lib.hid hw
        go_wp2_with (go_at_call 22; refine (white_any _ _).mono ?_; rintro e w' ⟨rfl, rfl⟩)
        go_round
        case rel =>
          refine ⟨p + 1, by omega, by omega, by rw [Bk.ext_tail], Lib.hid fun j hj hj' => ?_⟩
          by_cases e : j = p
          · subst e; rw [← Bk.bt_ext0 hlt ht]; exact HC.out
          · exact H.out j hj (by omega)
        case measure =>
          rw [Bk.ext_tail]
          show (s.extract (p + 1) t).size < (s.extract p t).size
          rw [Bk.size_ext s _ _ ht, Bk.size_ext s _ _ ht]; omega
      | false =>
        have HE := Lib.hid (Bk.firstN_eq (m := t) hp hp' H.out (fun _ => by rw [← Bk.bt_ext0 hlt ht]; exact hw))
        go_wp2_with (go_at_call 22; refine (white_any _ _).mono ?_; rintro e w' ⟨rfl, rfl⟩)
        go_ret
        exact ⟨ret_str (by rw [HE.out]), rfl⟩
    · have : p = t := by omega
      subst this
      have h0 := Bk.ext_nil (s := s) (p := p)
      have HE := Lib.hid (Bk.firstN_eq (m := p) hp hp' H.out (fun h => absurd h hlt))
      go_wp2
      go_ret
      exact ⟨ret_str (by rw [HE.out]; exact Bk.ext_empty s p), rfl⟩
namespace Bk
theorem prefix3 {s : ByteArray} {k : Nat} (hk : k ≤ s.size) (c : UInt8) :
    Lib.hasPrefix (s.extract k s.size).data.toList [c, c, c] = dash3 s k (c.toNat : Int) := by
  have hlen : s.data.toList.length = s.size := by simp
  have hl : (s.extract k s.size).data.toList = s.data.toList.drop k := by
    simp [ByteArray.data_extract]
    rw [List.take_of_length_le (by simp)]
  rw [hl]
  unfold dash3
  by_cases h : k + 3 ≤ s.size
  · have e0 := get_bt s k (by omega)
    have e1 := get_bt s (k + 1) (by omega)
    have e2 := get_bt s (k + 2) (by omega)
    rw [List.drop_eq_getElem_cons (by omega), List.drop_eq_getElem_cons (by omega), List.drop_eq_getElem_cons (by omega)]
    rw [← e0, ← e1, ← e2, Bool.eq_iff_iff]
    have q : ∀ (a b : UInt8), ((a.toNat : Int) = (b.toNat : Int)) ↔ b = a := fun a b => ⟨fun e => (UInt8.toNat_inj.1 (by omega)).symm, fun e => by rw [e]⟩
    simp [Lib.hasPrefix, List.isPrefixOf, h, q, and_assoc]
    rfl
  · rw [decide_eq_false h]
    simp only [Bool.false_and]
    cases hp : Lib.hasPrefix (List.drop k s.data.toList) [c, c, c] with
    | false => rfl
    | true =>
      exfalso
      have := List.IsPrefix.length_le (List.isPrefixOf_iff_prefix.1 hp)
      simp at this
      omega
end Bk
set_option maxHeartbeats 400000 in
theorem begun_dash (s : ByteArray) (k : Nat) (w : World) (hs : s.size ≤ 4611686018427387903) (hk : k ≤ s.size) :
    Calls Try.prog 72 #[.string s, .int .i64 k, .string ⟨#[45, 45, 45]⟩] w fun e w' => e = .returned (.bool (Bk.markB s k 45)) ∧ w = w' := by
  have HP : Hid (Lib.hasPrefix (s.extract k s.size).data.toList [45, 45, 45] = Bk.dash3 s k 45) := Lib.hid (Bk.prefix3 hk 45)
  cases hp : Bk.dash3 s k 45
  all_goals
    go_enter Try.func72, Try.ntmps72
    go_wp2_with first
      | (go_at_call 94; refine (Try.strings_HasPrefix _ _ _).mono ?_; rintro e w' ⟨rfl, rfl⟩; rw [HP.out])
      | (go_at_call 33; refine (ends_any _ _ _).mono ?_; rintro e w' ⟨rfl, rfl⟩)
    go_ret
    exact ⟨ret_bool (by simp [Bk.markB, hp]), rfl⟩
set_option maxHeartbeats 400000 in
theorem begun_dots (s : ByteArray) (k : Nat) (w : World) (hs : s.size ≤ 4611686018427387903) (hk : k ≤ s.size) :
    Calls Try.prog 72 #[.string s, .int .i64 k, .string ⟨#[46, 46, 46]⟩] w fun e w' => e = .returned (.bool (Bk.markB s k 46)) ∧ w = w' := by
  have HP : Hid (Lib.hasPrefix (s.extract k s.size).data.toList [46, 46, 46] = Bk.dash3 s k 46) := Lib.hid (Bk.prefix3 hk 46)
  cases hp : Bk.dash3 s k 46
  all_goals
    go_enter Try.func72, Try.ntmps72
    go_wp2_with first
      | (go_at_call 94; refine (Try.strings_HasPrefix _ _ _).mono ?_; rintro e w' ⟨rfl, rfl⟩; rw [HP.out])
      | (go_at_call 33; refine (ends_any _ _ _).mono ?_; rintro e w' ⟨rfl, rfl⟩)
    go_ret
    exact ⟨ret_bool (by simp [Bk.markB, hp]), rfl⟩
end Go.Proofs.Ytmmhpejnfkienaa
