/- The law PlaiMade of chapter 11: its walk. -/
import Derived.Test.YtmmhpejnfkienaaPlai8
import Derived.Test.YtmmhpejnfkienaaPropTells
namespace Go.Proofs.Ytmmhpejnfkienaa
open Go Go.RowKit Go.PlainAid
set_option linter.unusedVariables false
namespace Bk
theorem tab20_at : ∀ k, k < 20 → ∃ e : ByteArray, ([Value.string ⟨#[97]⟩, Value.string ⟨#[98]⟩, Value.string ⟨#[32]⟩, Value.string ⟨#[10, 32]⟩, Value.string ⟨#[10, 32, 32]⟩, Value.string ⟨#[10]⟩, Value.string ⟨#[58]⟩, Value.string ⟨#[58, 32]⟩, Value.string ⟨#[35]⟩, Value.string ⟨#[32, 35]⟩, Value.string ⟨#[44]⟩, Value.string ⟨#[93]⟩, Value.string ⟨#[45]⟩, Value.string ⟨#[45, 32]⟩, Value.string ⟨#[63]⟩, Value.string ⟨#[9]⟩, Value.string ⟨#[10, 10, 32]⟩, Value.string ⟨#[46, 46, 46]⟩, Value.string ⟨#[39]⟩, Value.string ⟨#[195, 169]⟩] : List Value)[k]? = some (.string e) ∧ e.size ≤ 4 := by
  intro k hk
  rcases (by omega : k = 0 ∨ k = 1 ∨ k = 2 ∨ k = 3 ∨ k = 4 ∨ k = 5 ∨ k = 6 ∨ k = 7 ∨ k = 8 ∨ k = 9 ∨ k = 10 ∨ k = 11 ∨ k = 12 ∨ k = 13 ∨ k = 14 ∨ k = 15 ∨ k = 16 ∨ k = 17 ∨ k = 18 ∨ k = 19) with rfl | rfl | rfl | rfl | rfl | rfl | rfl | rfl | rfl | rfl | rfl | rfl | rfl | rfl | rfl | rfl | rfl | rfl | rfl | rfl
  all_goals exact ⟨_, rfl, by decide⟩
end Bk
set_option maxRecDepth 20000 in
set_option maxHeartbeats 3200000 in
theorem plaiMade_walk (k2 : Option Addr) (len cap : Nat) (zs : List Int) (n : Int) (flow : Bool) (w : World) (hks : IntsAt w k2 len zs) :
    Calls Try.prog 17 #[.slice k2 len cap, .int .i64 n, .bool flow] w fun e w' => e = .returned (.bool true) ∧ Below w.heap.size w w' := by
  obtain ⟨hlm, hks⟩ := hks
  have HK := Lib.hid hks
  clear hks
  by_cases h2 : len ≤ 24
  · have hl3 := Bk.lowN_lt (x := n) (n := 3) (by omega)
    go_enter Try.func17, Try.ntmps17
    go_wp2_with fail
    go_loopw [7, 8] (fun t i wr => ∃ (k : Nat) (tx : ByteArray), k ≤ len ∧ i = .int .i64 k ∧ t = .string tx ∧ tx.size ≤ 4 * k ∧ Hid (Below w.heap.size w wr)) (fun _ i _ => len - (intOf i).toNat)
    case atStart => exact ⟨0, ByteArray.empty, Nat.zero_le _, rfl, rfl, by decide, Lib.hid (Below.refl _ _)⟩
    case round =>
      obtain ⟨k, tx, hk, rfl, rfl, htx, HB⟩ := hrel
      by_cases hlt : k < len
      · obtain ⟨b, off, rfl, hbb, hc⟩ := HK.out.resolve_left (by omega)
        have hcell := (HB.out.cell (p := ⟨b, off + k, none⟩) hbb).trans (hc k hlt)
        clear hc
        have hlow := Bk.lowN_lt (x := zs.getD k 0) (n := 20) (by omega)
        obtain ⟨z, hz⟩ : ∃ z, z = zs.getD k 0 := ⟨_, rfl⟩
        rw [← hz] at hcell hlow
        clear hz
        obtain ⟨e, he, hez⟩ := Bk.tab20_at (Bk.lowN z 20) (by omega)
        have hza := Bk.size_app tx e
        go_wp2_with (go_at_call 32; refine (low_any _ _ _ (by omega) (by omega)).mono ?_; rintro e w' ⟨rfl, rfl⟩)
        go_roundw
        case rel => exact ⟨k + 1, tx ++ e, by omega, by go_num, rfl, by omega, Lib.hid (HB.out.alloc HB.out.size _)⟩
        case measure => simp [intOf]; omega
      · obtain rfl : k = len := by omega
        go_wp2_with fail
        go_loopw [10] (fun i wx => ∃ (p : Nat), p ≤ tx.size ∧ i = .int .i64 p ∧ Hid (Below w.heap.size w wx)) (fun i _ => tx.size + 2 - (intOf i).toNat)
        case atStart => exact ⟨0, by omega, rfl, HB⟩
        case round =>
          obtain ⟨p, hp, rfl, HB2⟩ := hrel
          by_cases hpl : p < tx.size
          · go_wp2_with first
              | (go_at_call 32; refine (low_any _ _ _ (by omega) (by omega)).mono ?_; rintro e w' ⟨rfl, rfl⟩)
              | (go_at_call 62; refine (same11 tx p _ _ _ (by omega) (by omega)).mono ?_; rintro e w' ⟨rfl, hg⟩; have HG := Lib.hid (HB2.out.trans (hg.mono HB2.out.size)); clear hg)
            go_roundw
            case rel => exact ⟨p + 1, by omega, by go_num, HG⟩
            case measure => simp [intOf]; omega
          · go_wp2_with first
              | (go_at_call 61; refine (awake11 _).mono ?_; rintro e w' ⟨rfl, hg⟩; have HG := Lib.hid (HB2.out.trans (hg.mono HB2.out.size)); clear hg HB2; have HB2 := HG; clear HG)
            go_ret
            exact ⟨rfl, HB2.out⟩
  · go_enter Try.func17, Try.ntmps17
    go_wp2_with (go_at_call 61; refine (awake11 _).mono ?_; rintro e w' ⟨rfl, hg⟩; have HG := Lib.hid hg; clear hg)
    go_ret
    exact ⟨rfl, HG.out⟩
end Go.Proofs.Ytmmhpejnfkienaa
