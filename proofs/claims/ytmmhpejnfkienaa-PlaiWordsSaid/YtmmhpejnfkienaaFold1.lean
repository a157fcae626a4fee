/- strings.Builder by plain texts; Repeat of a line feed, gap, white of package fold, the document's Feeds: contracts. -/
import Derived.Test.YtmmhpejnfkienaaShelf
import Derived.Test.YtmmhpejnfkienaaBase
namespace Go.Proofs.Ytmmhpejnfkienaa
open Go Go.RowKit Go.PlainAid
set_option linter.unusedVariables false
namespace Bk
theorem app_list (a b : ByteArray) : (a ++ b).data.toList = a.data.toList ++ b.data.toList := by simp [ByteArray.data_append]
theorem repeat_add (l : List UInt8) : ∀ c, Lib.repeatL l (c + 1) = Lib.repeatL l c ++ l
  | 0 => by simp [Lib.repeatL]
  | c + 1 => by
    show l ++ Lib.repeatL l (c + 1) = (l ++ Lib.repeatL l c) ++ l
    rw [repeat_add l c, List.append_assoc]
theorem repeat_many (x : UInt8) : ∀ c, (⟨(Lib.repeatL [x] c).toArray⟩ : ByteArray) = manyS x c
  | 0 => rfl
  | c + 1 => by
    have h : (⟨(Lib.repeatL [x] (c + 1)).toArray⟩ : ByteArray) = ⟨(Lib.repeatL [x] c).toArray⟩ ++ ⟨#[x]⟩ := by
      apply ByteArray.ext
      rw [ByteArray.data_append, repeat_add]
      simp
    rw [h, repeat_many x c, manyS]
/-- What blank rows come to between two others. -/
def gapS (n : Nat) : ByteArray := if n = 0 then ⟨#[32]⟩ else manyS 10 n
theorem gapS_size (n : Nat) : (gapS n).size ≤ n + 1 := by
  unfold gapS
  by_cases h : n = 0
  · rw [if_pos h]; show 1 ≤ n + 1; omega
  · rw [if_neg h, manyS_size]; omega
/-- A builder of the call's own, and what it holds. -/
def Bld (B b : Nat) (t : ByteArray) (w : World) : Prop := Lib.IsBuilder 74 5 B b (Lib.byteCells t.data.toList) w
theorem bld_fresh (w : World) : Bld w.heap.size w.heap.size ByteArray.empty (w.alloc (.cells #[.pointer none, .slice none 0 0] 74)) := Lib.fresh_isBuilder 74 5 w
theorem bldAt_below {T e : TypeId} {B b : Nat} {p : Value} {bs : List Value} {w w' : World} (h : Lib.BuilderAt T e B b p bs w) (k : Below w.heap.size w w') : Lib.BuilderAt T e B b p bs w' := by
  have hlt := h.lt
  obtain ⟨hB, v, hb, hown, hne⟩ := h
  refine ⟨hB, v, (k.block b hlt).trans hb, ⟨hown.1, ?_⟩, hne⟩
  rcases hown.2 with hn | ⟨g, cap, cur, hv, hg, hgb, rest⟩
  · exact .inl hn
  · refine .inr ⟨g, cap, cur, hv, hg, (k.block g ?_).trans hgb, rest⟩
    rcases Nat.lt_or_ge g w.heap.size with h' | h'
    · exact h'
    · simp [Array.getElem?_eq_none h'] at hgb
theorem bld_below {B b : Nat} {t : ByteArray} {w w' : World} (h : Bld B b t w) (k : Below w.heap.size w w') : Bld B b t w' := by
  rcases h with h | h
  · exact .inl (bldAt_below h k)
  · exact .inr (bldAt_below h k)
theorem bld_drew {B b : Nat} {t : ByteArray} {w : World} (h : Bld B b t w) : Bld B b t w.drew := h
end Bk
theorem ws_any (B b : Nat) (t s : ByteArray) (w : World) (h : Bk.Bld B b t w) (hz : t.size + s.size ≤ 140737488355328) (hB : B ≤ w.heap.size) :
    Calls Try.prog 77 #[.pointer (some ⟨b, 0, none⟩), .string s] w fun e w' => e = .returned (.tuple #[.int .i64 s.size, .nilIface]) ∧ Bk.Bld B b (t ++ s) w' ∧ Below B w w' := by
  refine (Any.Builder_WriteString { Try.lays156 with } Try.Builder_Extra_156 B b _ s w h (by rw [Lib.byteCells_length, ← Lib.size_eq]; exact hz) hB).mono ?_
  rintro e w' ⟨rfl, h1, h2⟩
  refine ⟨rfl, .inr ?_, h2⟩
  rw [Bk.app_list, Lib.byteCells_append]
  exact h1
theorem bstr_any (B b : Nat) (t : ByteArray) (w : World) (h : Bk.Bld B b t w) (hB : B ≤ w.heap.size) :
    Calls Try.prog 79 #[.pointer (some ⟨b, 0, none⟩)] w fun e w' => e = .returned (.string t) ∧ Below B w w' := by
  refine (Try.Builder_String_any B b t.data.toList w h hB).mono ?_
  rintro e w' ⟨rfl, h2⟩
  exact ⟨by rw [Lib.mk_data], h2⟩
theorem rep_any (n : Nat) (w : World) (hn : n ≤ 140737488355328) :
    Calls Try.prog 82 #[.string ⟨#[10]⟩, .int .i64 n] w fun e w' => e = .returned (.string (Bk.manyS 10 n)) ∧ Below w.heap.size w w' := by
  refine (Try.strings_Repeat ⟨#[10]⟩ n w (by omega) (by show 1 * n ≤ _; omega)).mono ?_
  rintro e w' ⟨rfl, h2⟩
  exact ⟨ret_str (Bk.repeat_many 10 n), h2⟩
set_option maxHeartbeats 400000 in
theorem gap_any (n : Nat) (w : World) (hn : n ≤ 140737488355328) :
    Calls Try.prog 78 #[.int .i64 n] w fun e w' => e = .returned (.string (Bk.gapS n)) ∧ Below w.heap.size w w' := by
  by_cases h0 : n = 0
  · subst h0
    go_enter Try.func78, Try.ntmps78
    go_wp2
    go_ret
    exact ⟨rfl, by go_grown⟩
  · go_enter Try.func78, Try.ntmps78
    go_wp2_with (go_at_call 82; refine (rep_any n _ hn).mono ?_; rintro e w' ⟨rfl, hg⟩)
    go_ret
    exact ⟨ret_str (by unfold Bk.gapS; rw [if_neg h0]), by go_grown⟩
set_option maxHeartbeats 400000 in
theorem fwhite_any (s : ByteArray) (w : World) (h : 0 < s.size) :
    Calls Try.prog 83 #[.string s] w fun e w' => e = .returned (.bool (Bk.whiteB (bt s 0))) ∧ w = w' := by
  have hb := get_bt s
  go_enter Try.func83, Try.ntmps83
  go_wp2_with (go_at_call 22; refine (white_any _ _).mono ?_; rintro e w' ⟨rfl, rfl⟩)
  go_ret
  exact ⟨rfl, rfl⟩
set_option maxHeartbeats 400000 in
theorem rfeeds_any (n : Int) (w : World) (hn : n ≤ 140737488355328) :
    Calls Try.prog 80 #[.int .i64 n] w fun e w' => e = .returned (.string (Bk.manyS 10 n.toNat)) ∧ w = w' := by
  have hone : ({ data := #[10] } : ByteArray).size ≤ 1 := by decide
  go_enter Try.func80, Try.ntmps80
  go_wp2
  go_loop [3, 4] (fun s i => ∃ k : Nat, (k = 0 ∨ (k : Int) ≤ n) ∧ i = .int .i64 k ∧ s = .string (Bk.manyS 10 k)) (fun _ i => n.toNat - (intOf i).toNat)
  case atStart => exact ⟨0, .inl rfl, rfl, rfl⟩
  case round =>
    obtain ⟨k, hk, rfl, rfl⟩ := hrel
    have hz : (Bk.manyS 10 k).size ≤ k := by rw [Bk.manyS_size]; omega
    by_cases hlt : (k : Int) < n
    · go_wp2
      go_round
      case rel => exact ⟨k + 1, .inr (by omega), by go_num, rfl⟩
      case measure => simp [intOf]; omega
    · have hE : Hid (k = n.toNat) := Lib.hid (by omega)
      go_wp2
      go_ret
      exact ⟨ret_str (by rw [hE.out]), rfl⟩
end Go.Proofs.Ytmmhpejnfkienaa
