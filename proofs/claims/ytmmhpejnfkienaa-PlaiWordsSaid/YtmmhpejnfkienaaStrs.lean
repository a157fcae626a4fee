/- Plain lemmas on texts put together, and the contract of Long. -/
import Derived.Test.YtmmhpejnfkienaaRow1
namespace Go.Proofs.Ytmmhpejnfkienaa
open Go Go.RowKit Go.PlainAid
namespace Bk
theorem size_app (a b : ByteArray) : (a ++ b).size = a.size + b.size := by simp
theorem bt_left {a b : ByteArray} {j : Nat} (h : j < a.size) : bt (a ++ b) j = bt a j := by
  rw [← get_bt a j h, ← get_bt (a ++ b) j (by rw [size_app]; omega)]
  simp [ByteArray.getElem_append_left h]
theorem bt_right {a b : ByteArray} {j : Nat} (h : a.size ≤ j) (h' : j < a.size + b.size) : bt (a ++ b) j = bt b (j - a.size) := by
  rw [← get_bt b (j - a.size) (by omega), ← get_bt (a ++ b) j (by rw [size_app]; omega)]
  simp [ByteArray.getElem_append_right h]
/-- What of the first k bytes of a text ends no name. -/
def filtS (s : ByteArray) : Nat → ByteArray
  | 0 => ByteArray.empty
  | k + 1 => if stopB (bt s k) = true then filtS s k else filtS s k ++ s.extract k (k + 1)
theorem filtS_yes {s : ByteArray} {k : Nat} (h : stopB (bt s k) = false) : filtS s (k + 1) = filtS s k ++ s.extract k (k + 1) := by
  rw [filtS, if_neg (by rw [h]; decide)]
theorem filtS_no {s : ByteArray} {k : Nat} (h : stopB (bt s k) = true) : filtS s (k + 1) = filtS s k := by
  rw [filtS, if_pos h]
theorem filtS_le (s : ByteArray) : ∀ k, k ≤ s.size → (filtS s k).size ≤ k
  | 0, _ => Nat.le_refl _
  | k + 1, h => by
    have ih := filtS_le s k (by omega)
    cases hs : stopB (bt s k) with
    | true => rw [filtS_no hs]; omega
    | false => rw [filtS_yes hs, size_app, size_ext s k (k + 1) h]; omega
theorem filtS_bt (s : ByteArray) : ∀ k, k ≤ s.size → ∀ j, j < (filtS s k).size → stopB (bt (filtS s k) j) = false
  | 0, _, j, h => absurd h (by show ¬ j < 0; omega)
  | k + 1, h, j, hj => by
    have ih := filtS_bt s k (by omega)
    cases hs : stopB (bt s k) with
    | true => rw [filtS_no hs] at hj ⊢; exact ih j hj
    | false =>
      have hz := size_ext s k (k + 1) h
      rw [filtS_yes hs] at hj ⊢
      rw [size_app, hz] at hj
      by_cases hlt : j < (filtS s k).size
      · rw [bt_left hlt]; exact ih j hlt
      · rw [bt_right (by omega) (by omega), bt_ext h (by omega), show k + (j - (filtS s k).size) = k from by omega]; exact hs
theorem name_ahead {t u : ByteArray} (h : ∀ j, j < t.size → stopB (bt t j) = false) (hu : 0 < u.size → stopB (bt u 0) = true) : nameN (t ++ u) 0 = t.size := by
  have := @nameN_eq (t ++ u) 0 t.size (fun j hj => ?_) (fun hj => ?_)
  · exact this
  · rw [Nat.zero_add, size_app, bt_left hj]; exact ⟨by omega, h j hj⟩
  · rw [Nat.zero_add, size_app] at hj
    rw [Nat.zero_add, bt_right (Nat.le_refl _) (by omega), Nat.sub_self]; exact hu (by omega)
theorem name_whole {t : ByteArray} (h : ∀ j, j < t.size → stopB (bt t j) = false) : nameN t 0 = t.size := by
  have := @nameN_eq t 0 t.size (fun j hj => by rw [Nat.zero_add]; exact ⟨hj, h j hj⟩) (fun hj => by omega)
  exact this
theorem name_behind {a t : ByteArray} (h : ∀ j, j < t.size → stopB (bt t j) = false) : nameN (a ++ t) (a.size : Int) = t.size := by
  refine nameN_eq (fun j hj => ?_) (fun hj => ?_)
  · rw [size_app, bt_right (by omega) (by omega), show a.size + j - a.size = j from by omega]; exact ⟨by omega, h j hj⟩
  · rw [size_app] at hj; omega
/-- Have texts more than so many bytes together, or are they more than that? -/
def longB : Int → List Nat → Bool
  | _, [] => false
  | n, x :: xs => if n ≤ (x : Int) then true else longB (n - x - 1) xs
theorem longB_cons (n : Int) (x : Nat) (xs : List Nat) : longB n (x :: xs) = if n ≤ (x : Int) then true else longB (n - x - 1) xs := rfl
theorem tab_cell (w : World) (T : TypeId) (n : Nat) (hn : n = w.heap.size) (xs : List ByteArray) (j : Nat) (h : j < xs.length) :
    (w.alloc (.cells (xs.map Value.string).toArray T)).cell? ⟨n, j, none⟩ = some (.string (xs.getD j ByteArray.empty)) := by
  subst hn; rw [World.cell?_alloc_new]
  simp [h]
theorem longB_two {n : Int} {s u : ByteArray} (h : longB n ([s, u].map (·.size)) = false) : (s.size : Int) < n ∧ (u.size : Int) < n := by
  simp only [List.map_cons, List.map_nil, longB] at h
  split at h
  · exact absurd h (by decide)
  · split at h
    · exact absurd h (by decide)
    · omega
end Bk
set_option maxHeartbeats 800000 in
theorem long_any (n : Int) (b off len cap : Nat) (xs : List ByteArray) (w : World) (hn : 0 ≤ n) (hn' : n ≤ 1000000) (hlen : xs.length = len) (hl : len ≤ 4611686018427387903)
    (hc : ∀ j, j < len → w.cell? ⟨b, off + j, none⟩ = some (.string (xs.getD j ByteArray.empty))) :
    Calls Try.prog 37 #[.int .i64 n, .slice (some ⟨b, off, none⟩) len cap] w fun e w' => e = .returned (.bool (Bk.longB n (xs.map (·.size)))) ∧ w = w' := by
  have HC := Lib.hid hc
  have HL := Lib.hid hlen
  clear hc hlen
  go_enter Try.func37, Try.ntmps37
  go_wp2
  go_loop [0, 5] (fun m i => ∃ (k : Nat) (v : Int), k ≤ len ∧ 0 ≤ v ∧ v ≤ 1000000 ∧ i = .int .i64 k ∧ m = .int .i64 v ∧ Hid (Bk.longB n (xs.map (·.size)) = Bk.longB v ((xs.drop k).map (·.size)))) (fun _ i => len - (intOf i).toNat)
  case atStart => exact ⟨0, n, Nat.zero_le _, hn, hn', rfl, rfl, Lib.hid rfl⟩
  case round =>
    obtain ⟨k, v, hk, hv, hv', rfl, rfl, H⟩ := hrel
    by_cases hlt : k < len
    · obtain ⟨x, hx⟩ : ∃ x, x = xs.getD k ByteArray.empty := ⟨_, rfl⟩
      have hcell : w.cell? ⟨b, off + k, none⟩ = some (.string x) := by rw [hx]; exact HC.out k hlt
      have HD : Hid (xs.drop k = x :: xs.drop (k + 1)) := Lib.hid (by
        have h1 : k < xs.length := by rw [HL.out]; exact hlt
        rw [List.drop_eq_getElem_cons h1, hx]
        simp [h1])
      clear hx
      by_cases hge : v ≤ (x.size : Int)
      · have HE : Hid (Bk.longB n (xs.map (·.size)) = true) := Lib.hid (by rw [H.out, HD.out, List.map_cons, Bk.longB_cons, if_pos hge])
        go_wp2
        go_ret
        exact ⟨ret_bool HE.out.symm, rfl⟩
      · have HE : Hid (Bk.longB n (xs.map (·.size)) = Bk.longB (v - x.size - 1) ((xs.drop (k + 1)).map (·.size))) := Lib.hid (by rw [H.out, HD.out, List.map_cons, Bk.longB_cons, if_neg hge])
        go_wp2
        go_round
        case rel => exact ⟨k + 1, v - x.size - 1, by omega, by omega, by omega, by go_num, rfl, HE⟩
        case measure => simp [intOf]; omega
    · have HE : Hid (Bk.longB n (xs.map (·.size)) = false) := Lib.hid (by rw [H.out, List.drop_eq_nil_of_le (by rw [HL.out]; omega)]; rfl)
      go_wp2
      go_ret
      exact ⟨ret_bool HE.out.symm, rfl⟩
end Go.Proofs.Ytmmhpejnfkienaa
