/- The law PropTells of chapter 14: its walk. -/
import Derived.Test.YtmmhpejnfkienaaProp6
namespace Go.Proofs.Ytmmhpejnfkienaa
open Go Go.RowKit Go.PlainAid
set_option linter.unusedVariables false
/-- What a walk is told of a slice of integers that came in. -/
def IntsAt (w : World) (a : Option Addr) (len : Nat) (zs : List Int) : Prop :=
  len ≤ 9223372036854775807 ∧ (len = 0 ∨ ∃ b off, a = some ⟨b, off, none⟩ ∧ b < w.heap.size ∧ ∀ j, j < len → w.cell? ⟨b, off + j, none⟩ = some (.int .i64 (zs.getD j 0)))
theorem intsAt_of {w : World} {a : Option Addr} {len cap : Nat} {zs : List Int} (h : (a = none ∧ len = 0 ∧ cap = 0 ∧ zs = []) ∨ ∃ x, a = some x ∧ len ≤ cap ∧ cap ≤ maxLen ∧ zs.length = cap ∧ (∀ i, i < zs.length → w.cell? (x.add i) = some (.int .i64 (zs.getD i 0))) ∧ ∀ n ∈ zs, (Lit.int .i64 n).wf = true) : IntsAt w a len zs := by
  rcases h with ⟨_, h0, _, _⟩ | ⟨x, rfl, hl, hm, hz, hc, _⟩
  · exact ⟨by omega, .inl h0⟩
  · refine ⟨by unfold maxLen at hm; omega, ?_⟩
    by_cases h0 : len = 0
    · exact .inl h0
    · obtain ⟨b, off, spot⟩ := x
      have hc0 := hc 0 (by omega)
      have hspot : spot = none := by simpa [Addr.add] using World.cell?_spot hc0
      subst hspot
      refine .inr ⟨b, off, rfl, World.block_lt_of_cell? w _ hc0, fun j hj => ?_⟩
      have := hc j (by omega)
      by_cases e : j = 0
      · subst e; simpa [Addr.add] using this
      · simpa [Addr.add, e] using this
namespace Bk
theorem tab14_at : ∀ k, k < 14 → ∃ e : ByteArray, ([Value.string ⟨#[38]⟩, Value.string ⟨#[33]⟩, Value.string ⟨#[42]⟩, Value.string ⟨#[97]⟩, Value.string ⟨#[98]⟩, Value.string ⟨#[32]⟩, Value.string ⟨#[32, 32]⟩, Value.string ⟨#[9]⟩, Value.string ⟨#[33, 116]⟩, Value.string ⟨#[38, 120]⟩, Value.string ⟨#[44]⟩, Value.string ⟨#[93]⟩, Value.string ⟨#[33, 60, 121, 62]⟩, Value.string ⟨#[10]⟩] : List Value)[k]? = some (.string e) ∧ e.size ≤ 4 := by
  intro k hk
  rcases (by omega : k = 0 ∨ k = 1 ∨ k = 2 ∨ k = 3 ∨ k = 4 ∨ k = 5 ∨ k = 6 ∨ k = 7 ∨ k = 8 ∨ k = 9 ∨ k = 10 ∨ k = 11 ∨ k = 12 ∨ k = 13) with rfl | rfl | rfl | rfl | rfl | rfl | rfl | rfl | rfl | rfl | rfl | rfl | rfl | rfl
  all_goals exact ⟨_, rfl, by decide⟩
end Bk
set_option maxRecDepth 20000 in
set_option maxHeartbeats 3200000 in
theorem propTells_walk (s : ByteArray) (a : Int) (k2 : Option Addr) (len cap : Nat) (zs : List Int) (flow : Bool) (w : World) (hs0 : s.size ≤ maxLen) (ha : a ≤ 9223372036854775807) (hks : IntsAt w k2 len zs) :
    Calls Try.prog 10 #[.string s, .int .i64 a, .slice k2 len cap, .bool flow] w fun e w' => e = .returned (.bool true) ∧ Below w.heap.size w w' := by
  unfold maxLen at hs0
  obtain ⟨hlm, hks⟩ := hks
  have HK := Lib.hid hks
  clear hks
  by_cases h1 : s.size ≤ 60
  · by_cases h2 : len ≤ 14
    · have hs : s.size ≤ 4611686018427387903 := by omega
      clear hs0
      go_enter Try.func10, Try.ntmps10
      go_wp2_with fail
      go_loopw [9, 10] (fun t i wr => ∃ (k : Nat) (tx : ByteArray), k ≤ len ∧ i = .int .i64 k ∧ t = .string tx ∧ tx.size ≤ 4 * k ∧ Hid (Below w.heap.size w wr)) (fun _ i _ => len - (intOf i).toNat)
      case atStart => exact ⟨0, ByteArray.empty, Nat.zero_le _, rfl, rfl, by decide, Lib.hid (Below.refl _ _)⟩
      case round =>
        obtain ⟨k, tx, hk, rfl, rfl, htx, HB⟩ := hrel
        by_cases hlt : k < len
        · obtain ⟨b, off, rfl, hbb, hc⟩ := HK.out.resolve_left (by omega)
          have hcell := (HB.out.cell (p := ⟨b, off + k, none⟩) hbb).trans (hc k hlt)
          clear hc
          have hlow := Bk.lowN_lt (x := zs.getD k 0) (n := 14) (by omega)
          obtain ⟨z, hz⟩ : ∃ z, z = zs.getD k 0 := ⟨_, rfl⟩
          rw [← hz] at hcell hlow
          clear hz
          obtain ⟨e, he, hez⟩ := Bk.tab14_at (Bk.lowN z 14) (by omega)
          have hza := Bk.size_app tx e
          go_wp2_with (go_at_call 32; refine (low_any _ _ _ (by omega) (by omega)).mono ?_; rintro e w' ⟨rfl, rfl⟩)
          go_roundw
          case rel => exact ⟨k + 1, tx ++ e, by omega, by go_num, rfl, by omega, Lib.hid (HB.out.alloc HB.out.size _)⟩
          case measure => simp [intOf]; omega
        · obtain rfl : k = len := by omega
          go_wp2_with fail
          go_loopw [12] (fun i wx => ∃ (p : Nat), p ≤ s.size + 1 ∧ i = .int .i64 p ∧ Hid (Below w.heap.size w wx)) (fun i _ => s.size + 2 - (intOf i).toNat)
          case atStart => exact ⟨0, by omega, rfl, HB⟩
          case round =>
            obtain ⟨p, hp, rfl, HB2⟩ := hrel
            by_cases hpl : p ≤ s.size
            · go_wp2_with (go_at_call 51; refine (same14 _ _ _ _ hs (by omega)).mono ?_; rintro e w' ⟨rfl, hg⟩; have HG := Lib.hid (HB2.out.trans (hg.mono HB2.out.size)); clear hg)
              go_roundw
              case rel => exact ⟨p + 1, by omega, by go_num, HG⟩
              case measure => simp [intOf]; omega
            · have z1 := Bk.size_app ⟨#[38]⟩ tx
              have z2 := Bk.size_app ⟨#[33]⟩ tx
              have z3 : ({ data := #[38] } : ByteArray).size = 1 := rfl
              have z4 : ({ data := #[33] } : ByteArray).size = 1 := rfl
              go_wp2_with first
                | (go_at_call 51; refine (same14 _ _ _ _ (by omega) (by omega)).mono ?_; rintro e w' ⟨rfl, hg⟩; have HG := Lib.hid (HB2.out.trans (hg.mono HB2.out.size)); clear hg HB2; have HB2 := HG; clear HG)
                | (go_at_call 50; refine (awake14 _).mono ?_; rintro e w' ⟨rfl, hg⟩; have HG := Lib.hid (HB2.out.trans (hg.mono HB2.out.size)); clear hg HB2; have HB2 := HG; clear HG)
              go_ret
              exact ⟨rfl, HB2.out⟩
    · go_enter Try.func10, Try.ntmps10
      go_wp2_with (go_at_call 50; refine (awake14 _).mono ?_; rintro e w' ⟨rfl, hg⟩; have HG := Lib.hid hg; clear hg)
      go_ret
      exact ⟨rfl, HG.out⟩
  · go_enter Try.func10, Try.ntmps10
    go_wp2_with (go_at_call 50; refine (awake14 _).mono ?_; rintro e w' ⟨rfl, hg⟩; have HG := Lib.hid hg; clear hg)
    go_ret
    exact ⟨rfl, HG.out⟩
end Go.Proofs.Ytmmhpejnfkienaa
