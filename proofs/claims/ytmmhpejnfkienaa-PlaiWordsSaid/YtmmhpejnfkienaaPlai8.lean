/- awake and same of the laws on plain scalars: contracts. -/
import Derived.Test.YtmmhpejnfkienaaPlai7
namespace Go.Proofs.Ytmmhpejnfkienaa
open Go Go.RowKit Go.PlainAid
set_option linter.unusedVariables false
namespace Bk
theorem rd11_1 : readS ⟨#[97, 10, 32, 98]⟩ 0 0 false = (⟨#[97, 32, 98]⟩, 4, false, 0) := by decide +kernel
theorem rd11_2 : readS ⟨#[97, 10, 32, 98, 58, 32, 99]⟩ 0 0 false = (⟨#[]⟩, 4, false, 5) := by decide +kernel
theorem bg11_1 : beginsB ⟨#[45, 97]⟩ 0 false = true := by decide +kernel
theorem bg11_2 : beginsB ⟨#[45, 32, 97]⟩ 0 false = false := by decide +kernel
theorem pt11_1 : partN ⟨#[97, 58, 32, 98]⟩ 0 false = 1 := by decide +kernel
end Bk
theorem read63_zero (s : ByteArray) (n : Int) (fl : Bool) (w : World) (hs : s.size ≤ 900000) :
    Calls Try.prog 63 #[.string s, .int .i64 0, .int .i64 n, .bool fl] w fun e w' => e = .returned (.tuple #[.string (Bk.readS s 0 n fl).1, .int .i64 ((Bk.readS s 0 n fl).2.1 : Nat), .bool (Bk.readS s 0 n fl).2.2.1, .int .i64 (Bk.readS s 0 n fl).2.2.2]) ∧ Below w.heap.size w w' :=
  read63_any s 0 n fl w hs (Nat.zero_le _)
set_option maxHeartbeats 1600000 in
theorem awake11 (w : World) : Calls Try.prog 61 #[] w fun e w' => e = .returned (.bool true) ∧ Below w.heap.size w w' := by
  go_enter Try.func61, Try.ntmps61
  go_wp2_with first
    | (go_at_call 63; with_reducible refine (read63_zero ⟨#[97, 10, 32, 98]⟩ _ _ _ (by decide)).mono ?_; rintro e w1 ⟨rfl, hg⟩; rw [Bk.rd11_1]; have K1 := Lib.hid hg; clear hg)
    | (go_at_call 63; with_reducible refine (read63_zero ⟨#[97, 10, 32, 98, 58, 32, 99]⟩ _ _ _ (by decide)).mono ?_; rintro e w2 ⟨rfl, hg⟩; rw [Bk.rd11_2]; have K2 := Lib.hid (K1.out.trans (hg.mono K1.out.size)); clear hg)
    | (go_at_call 65; with_reducible refine (begins_any ⟨#[45, 97]⟩ _ _ _ (by decide) (by decide)).mono ?_; rintro e w3 ⟨rfl, rfl⟩; rw [show (0 : Int).toNat = 0 from rfl, Bk.bg11_1])
    | (go_at_call 65; with_reducible refine (begins_any ⟨#[45, 32, 97]⟩ _ _ _ (by decide) (by decide)).mono ?_; rintro e w3 ⟨rfl, rfl⟩; rw [show (0 : Int).toNat = 0 from rfl, Bk.bg11_2])
    | (go_at_call 64; refine (part_any ⟨#[97, 58, 32, 98]⟩ _ _ _ (by decide) (by decide)).mono ?_; rintro e w3 ⟨rfl, hg⟩; rw [show (0 : Int).toNat = 0 from rfl, Bk.pt11_1]; have K3 := Lib.hid (K2.out.trans (hg.mono K2.out.size)); clear hg)
  go_ret
  exact ⟨rfl, K3.out⟩
set_option maxHeartbeats 3200000 in
theorem same11 (s : ByteArray) (k : Nat) (n : Int) (fl : Bool) (w : World) (hs : s.size ≤ 900000) (hk : k ≤ s.size) :
    Calls Try.prog 62 #[.string s, .int .i64 k, .int .i64 n, .bool fl] w fun e w' => e = .returned (.bool true) ∧ Below w.heap.size w w' := by
  obtain ⟨x, hx⟩ : ∃ x, x = Bk.readS s k n fl := ⟨_, rfl⟩
  have HX := Lib.hid hx
  clear hx
  obtain ⟨x1, x2, x3, x4⟩ := x
  obtain ⟨bg, hbg⟩ : ∃ bg, bg = Bk.beginsB s k fl := ⟨_, rfl⟩
  have HB := Lib.hid hbg
  clear hbg
  obtain ⟨pt, hpt⟩ : ∃ pt, pt = Bk.partN s k fl := ⟨_, rfl⟩
  have HP := Lib.hid hpt
  clear hpt
  go_enter Try.func62, Try.ntmps62
  go_wp2_with first
    | (go_at_call 63; refine (read63_any s _ n fl _ hs hk).mono ?_; rintro e w1 ⟨rfl, hg⟩; rw [← HX.out]; have K1 := Lib.hid hg; clear hg)
    | (go_at_call 84; refine (plain84_any s _ n fl _ hs hk).mono ?_; rintro e w2 ⟨rfl, hg⟩; rw [← HX.out]; have K2 := Lib.hid (K1.out.trans (hg.mono K1.out.size)); clear hg)
    | (go_at_call 65; refine (begins_any s _ fl _ (by omega) (by omega)).mono ?_; rintro e w3 ⟨rfl, rfl⟩; rw [Int.toNat_natCast, ← HB.out])
    | (go_at_call 85; refine (rbegins_any s _ fl _ (by omega) (by omega)).mono ?_; rintro e w3 ⟨rfl, rfl⟩; rw [Int.toNat_natCast, ← HB.out])
    | (go_at_call 64; refine (part_any s _ fl _ (by omega) (by omega)).mono ?_; rintro e w3 ⟨rfl, hg⟩; rw [Int.toNat_natCast, ← HP.out]; have K3 := Lib.hid (K2.out.trans (hg.mono K2.out.size)); clear hg)
    | (go_at_call 86; refine (rpart_any s _ fl _ (by omega) (by omega)).mono ?_; rintro e w4 ⟨rfl, rfl⟩; rw [Int.toNat_natCast, ← HP.out])
  go_ret
  exact ⟨ret_bool (by simp), K3.out⟩
end Go.Proofs.Ytmmhpejnfkienaa
