/- The law PlaiSigns of chapter 11: its walk. -/
import Derived.Test.YtmmhpejnfkienaaPlai8
import Derived.Laws.BytesArg
namespace Go.Proofs.Ytmmhpejnfkienaa
open Go Go.RowKit Go.PlainAid
set_option linter.unusedVariables false
namespace Bk
def t6 : List ByteArray := [⟨#[97]⟩, ⟨#[32]⟩, ⟨#[]⟩, ⟨#[10]⟩, ⟨#[44]⟩, ⟨#[93]⟩]
def t6At (k : Nat) : ByteArray := t6.getD k ByteArray.empty
theorem t6_at : ∀ k, k < 6 → ([Value.string ⟨#[97]⟩, Value.string ⟨#[32]⟩, Value.string ⟨#[]⟩, Value.string ⟨#[10]⟩, Value.string ⟨#[44]⟩, Value.string ⟨#[93]⟩] : List Value)[k]? = some (.string (t6At k)) ∧ (t6At k).size ≤ 1 := by
  intro k hk
  rcases (by omega : k = 0 ∨ k = 1 ∨ k = 2 ∨ k = 3 ∨ k = 4 ∨ k = 5) with rfl | rfl | rfl | rfl | rfl | rfl
  all_goals exact ⟨rfl, by decide⟩
def oneS (n : Nat) : ByteArray := ⟨#[UInt8.ofNat n]⟩
def blockB (c : Int) (k : Nat) : Bool := !(whiteB c || c == 10) && (!indB c || (signB c && (k == 0 || decide (3 < k))))
def flow2B (c : Int) (k : Nat) : Bool := !(whiteB c || c == 10) && (!indB c || (signB c && k == 0))
theorem begins_all : ∀ n : Nat, n < 256 → ∀ k, k < 6 → beginsB (oneS n ++ t6At k) 0 false = blockB n k ∧ beginsB (oneS n ++ t6At k) 0 true = flow2B n k := by decide +kernel
theorem begins_end (s : ByteArray) : beginsB s s.size false = false := by
  unfold beginsB
  rw [ends_out (.inr (by omega))]; rfl
theorem byte_f1 : ∀ n : Nat, n < 256 → (whiteB n = true → ((n : Int) == 10) = false ∧ ((n : Int) == 45) = false ∧ ((n : Int) == 63) = false ∧ ((n : Int) == 58) = false) := by decide +kernel
theorem byte_f2 : ∀ n : Nat, n < 256 → (((n : Int) == 10) = true → indB n = false ∧ whiteB n = false ∧ ((n : Int) == 45) = false ∧ ((n : Int) == 63) = false ∧ ((n : Int) == 58) = false) := by decide +kernel
theorem byte_f3 : ∀ n : Nat, n < 256 → (((n : Int) == 45) = true → indB n = true ∧ whiteB n = false ∧ ((n : Int) == 10) = false ∧ ((n : Int) == 63) = false ∧ ((n : Int) == 58) = false) := by decide +kernel
theorem byte_f4 : ∀ n : Nat, n < 256 → (((n : Int) == 63) = true → indB n = true ∧ whiteB n = false ∧ ((n : Int) == 10) = false ∧ ((n : Int) == 45) = false ∧ ((n : Int) == 58) = false) := by decide +kernel
theorem byte_f5 : ∀ n : Nat, n < 256 → (((n : Int) == 58) = true → indB n = true ∧ whiteB n = false ∧ ((n : Int) == 10) = false ∧ ((n : Int) == 45) = false ∧ ((n : Int) == 63) = false) := by decide +kernel
theorem str_one (n : Nat) : strOfNums [(n : Int)] = oneS n := by
  unfold strOfNums oneS
  rfl
end Bk

theorem cv_one (w : World) (n : Nat) (h : n < 256) (g : Nat) (hg : g = w.heap.size) :
    (convert 60 9 (.slice (some ⟨g, 0, none⟩) 1 1)).run Try.prog (w.alloc (.cells #[.int .u8 n] 5)) = .ok (.string (Bk.oneS n)) (w.alloc (.cells #[.int .u8 n] 5)) := by
  subst hg
  rw [← Bk.str_one]
  refine run_convert_bytes_arg _ 60 5 Try.underlying60 Try.underlying5 w.heap.size 0 1 1 [(n : Int)] rfl (fun i hi => ?_) 9 Try.underlying9
  obtain rfl : i = 0 := by omega
  rw [World.cell?_alloc_new]; rfl
theorem below_two {w w' : World} {a b : Obj} (h : Below ((w.alloc a).alloc b).heap.size ((w.alloc a).alloc b) w') : Below w.heap.size w w' :=
  (((Below.refl _ _).alloc (Nat.le_refl _) a).alloc (by simp) b).trans (h.mono (by simp; omega))
set_option maxRecDepth 20000 in
set_option maxHeartbeats 6400000 in
theorem plaiSigns_walk (c : Int) (b : Int) (w : World) (hc : 0 ≤ c) (hc' : c ≤ 255) :
    Calls Try.prog 20 #[.int .u8 c, .int .i64 b] w fun e w' => e = .returned (.bool true) ∧ Below w.heap.size w w' := by
  obtain ⟨n, rfl⟩ := Int.eq_ofNat_of_zero_le hc
  have hn : n < 256 := by omega
  have hk := Bk.lowN_lt (x := b) (n := 6) (by omega)
  obtain ⟨ht, htz⟩ := Bk.t6_at (Bk.lowN b 6) (by omega)
  obtain ⟨hb0, hb1⟩ := Bk.begins_all n hn (Bk.lowN b 6) (by omega)
  have f1 := Bk.byte_f1 n hn
  have f2 := Bk.byte_f2 n hn
  have f3 := Bk.byte_f3 n hn
  have f4 := Bk.byte_f4 n hn
  have f5 := Bk.byte_f5 n hn
  have hz := Bk.size_app (Bk.oneS n) (Bk.t6At (Bk.lowN b 6))
  have hz1 : (Bk.oneS n).size = 1 := rfl
  have HE := Lib.hid (Bk.begins_end (Bk.oneS n ++ Bk.t6At (Bk.lowN b 6)))
  have hcv := cv_one (w.alloc (.cells #[Value.string ⟨#[97]⟩, Value.string ⟨#[32]⟩, Value.string ⟨#[]⟩, Value.string ⟨#[10]⟩, Value.string ⟨#[44]⟩, Value.string ⟨#[93]⟩] 9)) n hn (w.heap.size + 1) (by simp)
  obtain ⟨e, he⟩ : ∃ e, e = Bk.t6At (Bk.lowN b 6) := ⟨_, rfl⟩
  rw [← he] at ht htz hb0 hb1 hz HE
  clear he
  obtain ⟨o, ho⟩ : ∃ o, o = Bk.oneS n := ⟨_, rfl⟩
  rw [← ho] at hb0 hb1 hz HE hz1 hcv
  clear ho
  have hse : (o ++ e).size ≤ 2 := by omega
  have hoz : o.size ≤ 1 := by omega
  have HSZ : Hid (((o.size : Int) + (e.size : Int)).toNat = (o ++ e).size) := Lib.hid (by rw [Bk.size_app]; omega)
  clear hz hz1
  have hways : ((Bk.whiteB n = true ∧ ((n : Int) == 10) = false ∧ ((n : Int) == 45) = false ∧ ((n : Int) == 63) = false ∧ ((n : Int) == 58) = false) ∨
      (Bk.whiteB n = false ∧ ((n : Int) == 10) = true ∧ ((n : Int) == 45) = false ∧ ((n : Int) == 63) = false ∧ ((n : Int) == 58) = false) ∨
      (Bk.whiteB n = false ∧ ((n : Int) == 10) = false ∧ ((n : Int) == 45) = false ∧ ((n : Int) == 63) = false ∧ ((n : Int) == 58) = false)) ∨
      (Bk.indB n = true ∧ Bk.whiteB n = false ∧ ((n : Int) == 10) = false ∧ (((n : Int) == 45) = true ∨ (((n : Int) == 45) = false ∧ ((n : Int) == 63) = true) ∨ (((n : Int) == 45) = false ∧ ((n : Int) == 63) = false ∧ ((n : Int) == 58) = true))) := by
    cases hw : Bk.whiteB n with
    | true => exact .inl (.inl ⟨rfl, f1 hw⟩)
    | false =>
      cases h10 : ((n : Int) == 10) with
      | true => exact .inl (.inr (.inl ⟨rfl, rfl, (f2 h10).2.2⟩))
      | false =>
        cases h45 : ((n : Int) == 45) with
        | true => exact .inr ⟨(f3 h45).1, rfl, rfl, .inl rfl⟩
        | false =>
          cases h63 : ((n : Int) == 63) with
          | true => exact .inr ⟨(f4 h63).1, rfl, rfl, .inr (.inl ⟨rfl, rfl⟩)⟩
          | false =>
            cases h58 : ((n : Int) == 58) with
            | true => exact .inr ⟨(f5 h58).1, rfl, rfl, .inr (.inr ⟨rfl, rfl, rfl⟩)⟩
            | false => exact .inl (.inr (.inr ⟨rfl, rfl, rfl, rfl, rfl⟩))
  clear f1 f2 f3 f4 f5
  rcases hways with hways | ⟨hI, hW, h10, hs⟩
  · obtain ⟨B, hB⟩ : ∃ B, B = (!(Bk.whiteB n || (n : Int) == 10) && !Bk.indB n) := ⟨_, rfl⟩
    have hS : Bk.signB n = false := by unfold Bk.signB; rcases hways with h | h | h <;> rw [h.2.2.1, h.2.2.2.1, h.2.2.2.2] <;> rfl
    have HB0 : Hid (Bk.beginsB (o ++ e) 0 false = B) := Lib.hid (by rw [hb0, Bk.blockB, hS, hB]; simp)
    have HB1 : Hid (Bk.beginsB (o ++ e) 0 true = B) := Lib.hid (by rw [hb1, Bk.flow2B, hS, hB]; simp)
    clear hb0 hb1 hS
    rcases hways with ⟨hW, h10, h45, h63, h58⟩ | ⟨hW, h10, h45, h63, h58⟩ | ⟨hW, h10, h45, h63, h58⟩
    all_goals
      cases hI : Bk.indB n
      all_goals
        rw [hW, h10, hI] at hB
        obtain rfl := hB
        go_enter Try.func20, Try.ntmps20
        go_wp2_with first
          | (go_at_call 32; refine (low_any _ _ _ (by omega) (by omega)).mono ?_; rintro e1 w' ⟨rfl, rfl⟩)
          | (go_at_call 25; refine (rind_any _ _).mono ?_; rintro e1 w' ⟨rfl, rfl⟩)
          | (go_at_call 23; refine (rwhite_any _ _).mono ?_; rintro e1 w' ⟨rfl, rfl⟩)
          | (go_at_call 65; with_reducible refine (begins_any (o ++ e) 0 false _ (by omega) (by decide)).mono ?_; rintro e1 w' ⟨rfl, rfl⟩; rw [show (0 : Int).toNat = 0 from rfl, HB0.out])
          | (go_at_call 65; with_reducible refine (begins_any (o ++ e) 0 true _ (by omega) (by decide)).mono ?_; rintro e1 w' ⟨rfl, rfl⟩; rw [show (0 : Int).toNat = 0 from rfl, HB1.out])
          | (go_at_call 65; refine (begins_any (o ++ e) _ false _ (by omega) (by omega)).mono ?_; rintro e1 w' ⟨rfl, rfl⟩; rw [HSZ.out, HE.out])
          | (go_at_call 61; refine (awake11 _).mono ?_; rintro e1 w' ⟨rfl, hg⟩)
        go_ret
        exact ⟨rfl, below_two hg⟩
  · have HB0 : Hid (Bk.beginsB (o ++ e) 0 false = (Bk.lowN b 6 == 0 || decide (3 < Bk.lowN b 6))) := Lib.hid (by
      have hS : Bk.signB n = true := by unfold Bk.signB; rcases hs with h | h | h <;> simp [h]
      rw [hb0, Bk.blockB, hS, hW, h10, hI]; simp)
    have HB1 : Hid (Bk.beginsB (o ++ e) 0 true = (Bk.lowN b 6 == 0)) := Lib.hid (by
      have hS : Bk.signB n = true := by unfold Bk.signB; rcases hs with h | h | h <;> simp [h]
      rw [hb1, Bk.flow2B, hS, hW, h10, hI]; simp)
    clear hb0 hb1
    have hkw : (((Bk.lowN b 6 : Nat) : Int) == 0) = true ∧ Hid ((Bk.lowN b 6 == 0 || decide (3 < Bk.lowN b 6)) = true ∧ (Bk.lowN b 6 == 0) = true) ∨
        ((((Bk.lowN b 6 : Nat) : Int) == 0) = false ∧ 3 < Bk.lowN b 6 ∧ Hid ((Bk.lowN b 6 == 0 || decide (3 < Bk.lowN b 6)) = true ∧ (Bk.lowN b 6 == 0) = false)) ∨
        ((((Bk.lowN b 6 : Nat) : Int) == 0) = false ∧ ¬ 3 < Bk.lowN b 6 ∧ Hid ((Bk.lowN b 6 == 0 || decide (3 < Bk.lowN b 6)) = false ∧ (Bk.lowN b 6 == 0) = false)) := by
      by_cases h0 : Bk.lowN b 6 = 0
      · exact .inl ⟨by simp [h0], Lib.hid ⟨by simp [h0], by simp [h0]⟩⟩
      · by_cases h3 : 3 < Bk.lowN b 6
        · exact .inr (.inl ⟨by simpa using h0, h3, Lib.hid ⟨by simp [h3], by simp [h0]⟩⟩)
        · exact .inr (.inr ⟨by simpa using h0, h3, Lib.hid ⟨by simp [h0, h3], by simp [h0]⟩⟩)
    rcases hkw with ⟨hk0, HK⟩ | ⟨hk0, hk3, HK⟩ | ⟨hk0, hk3, HK⟩
    all_goals
      rcases hs with h45 | ⟨h45, h63⟩ | ⟨h45, h63, h58⟩
      all_goals
        go_enter Try.func20, Try.ntmps20
        go_wp2_with first
          | (go_at_call 32; refine (low_any _ _ _ (by omega) (by omega)).mono ?_; rintro e1 w' ⟨rfl, rfl⟩)
          | (go_at_call 25; refine (rind_any _ _).mono ?_; rintro e1 w' ⟨rfl, rfl⟩)
          | (go_at_call 23; refine (rwhite_any _ _).mono ?_; rintro e1 w' ⟨rfl, rfl⟩)
          | (go_at_call 65; with_reducible refine (begins_any (o ++ e) 0 false _ (by omega) (by decide)).mono ?_; rintro e1 w' ⟨rfl, rfl⟩; rw [show (0 : Int).toNat = 0 from rfl, HB0.out, HK.out.1])
          | (go_at_call 65; with_reducible refine (begins_any (o ++ e) 0 true _ (by omega) (by decide)).mono ?_; rintro e1 w' ⟨rfl, rfl⟩; rw [show (0 : Int).toNat = 0 from rfl, HB1.out, HK.out.2])
          | (go_at_call 65; refine (begins_any (o ++ e) _ false _ (by omega) (by omega)).mono ?_; rintro e1 w' ⟨rfl, rfl⟩; rw [HSZ.out, HE.out])
          | (go_at_call 61; refine (awake11 _).mono ?_; rintro e1 w' ⟨rfl, hg⟩)
        go_ret
        first | exact ⟨rfl, below_two hg⟩ | exact ⟨ret_bool (by simp; omega), below_two hg⟩
end Go.Proofs.Ytmmhpejnfkienaa
