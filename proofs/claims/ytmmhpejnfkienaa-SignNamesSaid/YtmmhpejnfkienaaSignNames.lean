/- The law SignNames of chapter 4: its walk. -/
import Derived.Test.YtmmhpejnfkienaaStrs
namespace Go.Proofs.Ytmmhpejnfkienaa
open Go Go.RowKit Go.PlainAid
namespace Bk
/-- The bytes that end a name. -/
def tab8 : List ByteArray := [⟨#[32]⟩, ⟨#[9]⟩, ⟨#[10]⟩, ⟨#[44]⟩, ⟨#[91]⟩, ⟨#[93]⟩, ⟨#[123]⟩, ⟨#[125]⟩]
theorem tab8_is : ∀ k, k < 8 → ∃ e : ByteArray, ([Value.string ⟨#[32]⟩, Value.string ⟨#[9]⟩, Value.string ⟨#[10]⟩, Value.string ⟨#[44]⟩, Value.string ⟨#[91]⟩, Value.string ⟨#[93]⟩, Value.string ⟨#[123]⟩, Value.string ⟨#[125]⟩] : List Value)[k]? = some (.string e) ∧ e.size = 1 ∧ stopB (bt e 0) = true := by
  intro k hk
  rcases (by omega : k = 0 ∨ k = 1 ∨ k = 2 ∨ k = 3 ∨ k = 4 ∨ k = 5 ∨ k = 6 ∨ k = 7) with rfl | rfl | rfl | rfl | rfl | rfl | rfl | rfl
  all_goals exact ⟨_, rfl, rfl, by decide +kernel⟩
theorem names_end {t e u : ByteArray} (h : ∀ j, j < t.size → stopB (bt t j) = false) (he : e.size = 1) (hs : stopB (bt e 0) = true) : nameN (t ++ e ++ u) 0 = t.size := by
  rw [ByteArray.append_assoc]
  refine name_ahead h (fun _ => ?_)
  rw [bt_left (by omega)]; exact hs
end Bk
set_option maxRecDepth 20000 in
set_option maxHeartbeats 1600000 in
theorem signNames_walk (s : ByteArray) (a : Int) (u : ByteArray) (w : World) (hs0 : s.size ≤ maxLen) (hu0 : u.size ≤ maxLen) :
    Calls Try.prog 5 #[.string s, .int .i64 a, .string u] w fun e w' => e = .returned (.bool true) ∧ Grown w w' := by
  unfold maxLen at hs0 hu0
  have hbt := get_bt s
  have hc2 : ∀ j, j < 2 → (w.alloc (Obj.cells #[Value.string s, Value.string u] 9)).cell? ⟨w.heap.size, 0 + j, none⟩ = some (.string ([s, u].getD j ByteArray.empty)) := fun j hj => by
    rw [Nat.zero_add]; exact Bk.tab_cell w 9 _ rfl [s, u] j hj
  have HC2 := Lib.hid hc2; clear hc2
  cases hL : Bk.longB 120 ([s, u].map (·.size)) with
  | true =>
    have HL : Hid (Bk.longB 120 ([s, u].map (·.size)) = true) := Lib.hid hL
    clear hL
    go_enter Try.func5, Try.ntmps5
    go_wp2_with first
      | (go_at_call 37; refine (long_any 120 w.heap.size 0 2 2 [s, u] _ (by decide) (by decide) rfl (by decide) HC2.out).mono ?_; rintro e w' ⟨rfl, rfl⟩; rw [HL.out])
      | (go_at_call 21; refine (awake4 _).mono ?_; rintro e w' ⟨rfl, rfl⟩)
    go_ret
    exact ⟨rfl, by go_grown⟩
  | false =>
    have HL : Hid (Bk.longB 120 ([s, u].map (·.size)) = false) := Lib.hid hL
    have hz := Bk.longB_two hL
    clear hL
    have hk := Bk.lowN_lt (x := a) (n := 8) (by omega)
    go_enter Try.func5, Try.ntmps5
    go_wp2_with first
      | (go_at_call 37; refine (long_any 120 w.heap.size 0 2 2 [s, u] _ (by decide) (by decide) rfl (by decide) HC2.out).mono ?_; rintro e w' ⟨rfl, rfl⟩; rw [HL.out])
    go_loop [7, 8] (fun t i => ∃ (k : Nat), k ≤ s.size ∧ i = .int .i64 k ∧ t = .string (Bk.filtS s k)) (fun _ i => s.size - (intOf i).toNat)
    case atStart => exact ⟨0, Nat.zero_le _, rfl, rfl⟩
    case round =>
      obtain ⟨k, hk', rfl, rfl⟩ := hrel
      have hfl := Bk.filtS_le s k hk'
      by_cases hlt : k < s.size
      · have HS := Lib.hid (Bk.stop_of hlt)
        have hz2 := Bk.size_ext s k (k + 1) (by omega)
        cases hE : Bk.endsB s (k : Int) with
        | true =>
          have HF := Lib.hid (Bk.filtS_no (s := s) (k := k) (by rw [HS.out, hE]; rfl))
          go_wp2_with first
            | (go_at_call 33; refine (ends_any _ _ _).mono ?_; rintro e w' ⟨rfl, rfl⟩)
            | (go_at_call 26; refine (flow_any _ _).mono ?_; rintro e w' ⟨rfl, rfl⟩)
          go_round
          case rel => exact ⟨k + 1, by omega, by go_num, by rw [HF.out]⟩
          case measure => simp [intOf]; omega
        | false =>
          cases hF : Bk.flowB (bt s k) with
          | true =>
            have HF := Lib.hid (Bk.filtS_no (s := s) (k := k) (by rw [HS.out, hF]; simp))
            go_wp2_with first
              | (go_at_call 33; refine (ends_any _ _ _).mono ?_; rintro e w' ⟨rfl, rfl⟩)
              | (go_at_call 26; refine (flow_any _ _).mono ?_; rintro e w' ⟨rfl, rfl⟩)
            go_round
            case rel => exact ⟨k + 1, by omega, by go_num, by rw [HF.out]⟩
            case measure => simp [intOf]; omega
          | false =>
            have HF := Lib.hid (Bk.filtS_yes (s := s) (k := k) (by rw [HS.out, hE, hF]; rfl))
            go_wp2_with first
              | (go_at_call 33; refine (ends_any _ _ _).mono ?_; rintro e w' ⟨rfl, rfl⟩)
              | (go_at_call 26; refine (flow_any _ _).mono ?_; rintro e w' ⟨rfl, rfl⟩)
            go_round
            case rel => exact ⟨k + 1, by omega, by go_num, by rw [HF.out]⟩
            case measure => simp [intOf]; omega
      · obtain rfl : k = s.size := by omega
        obtain ⟨e, he, hez, hes⟩ := Bk.tab8_is (Bk.lowN a 8) (by omega)
        have HT := Lib.hid (Bk.filtS_bt s s.size (Nat.le_refl _))
        have N1 := Lib.hid (Bk.names_end (u := u) HT.out hez hes)
        have N2 := Lib.hid (Bk.name_whole HT.out)
        have N3 : Hid (Bk.nameN (⟨#[93]⟩ ++ Bk.filtS s s.size) 1 = (Bk.filtS s s.size).size) := Lib.hid (Bk.name_behind (a := ⟨#[93]⟩) HT.out)
        have hle : e.size ≤ 1 := by omega
        have z1 := Bk.size_app (Bk.filtS s s.size) e
        have z2 : ({ data := #[93] } : ByteArray).size ≤ 1 := by decide
        clear hez hes
        go_wp2_with first
          | (go_at_call 32; refine (low_any _ _ _ (by omega) (by omega)).mono ?_; rintro e w' ⟨rfl, rfl⟩)
          | (go_at_call 35; refine (name_any _ _ _ (by (try simp only [Bk.size_app]); omega) (by omega) (by omega)).mono ?_; rintro e w' ⟨rfl, rfl⟩; first | rw [N1.out] | rw [N2.out] | rw [N3.out])
          | (go_at_call 21; refine (awake4 _).mono ?_; rintro e w' ⟨rfl, rfl⟩)
        go_ret
        exact ⟨rfl, by go_grown⟩
end Go.Proofs.Ytmmhpejnfkienaa
