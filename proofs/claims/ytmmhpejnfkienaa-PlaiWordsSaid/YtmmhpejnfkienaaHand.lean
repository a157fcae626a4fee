/- Tags and their sizes: plain functions; hex, percent, uris, handle of package hand: contracts. -/
import Derived.Test.YtmmhpejnfkienaaRow3
namespace Go.Proofs.Ytmmhpejnfkienaa
open Go Go.RowKit Go.PlainAid
namespace Bk
def hexB (c : Int) : Bool := decide (48 ≤ c ∧ c ≤ 57) || decide (97 ≤ c ∧ c ≤ 102) || decide (65 ≤ c ∧ c ≤ 70)
/-- Do two hex digits stand behind place k? -/
def percB (s : ByteArray) (k : Nat) : Bool := decide (k + 3 ≤ s.size) && hexB (bt s (k + 1)) && hexB (bt s (k + 2))
/-- May the byte at place i stand in a tag (tight: in a suffix)? -/
def okB (s : ByteArray) (tight : Bool) (i : Nat) : Bool := uriB (bt s i) && (!(bt s i == 37) || percB s i) && !(tight && (bt s i == 33 || flowB (bt s i)))
theorem ok_stop {s : ByteArray} {tight : Bool} {i : Nat} (h : okB s tight i = false) :
    uriB (bt s i) = false ∨ (uriB (bt s i) = true ∧ (bt s i == 37) = true ∧ percB s i = false) ∨
    (uriB (bt s i) = true ∧ (bt s i == 37) = false ∧ tight = true ∧ (bt s i == 33) = true) ∨
    (uriB (bt s i) = true ∧ (bt s i == 37) = false ∧ tight = true ∧ (bt s i == 33) = false ∧ flowB (bt s i) = true) := by
  unfold okB at h
  cases h1 : uriB (bt s i) <;> cases h2 : (bt s i == 37) <;> cases h3 : percB s i <;> cases tight <;> cases h4 : (bt s i == 33) <;> cases h5 : flowB (bt s i) <;> simp [h1, h2, h3, h4, h5] at h ⊢
  all_goals (rw [beq_iff_eq.1 h2] at h4 h5; first | exact Bool.noConfusion (h4.symm.trans (by decide : ((37 : Int) == 33) = false)) | exact Bool.noConfusion (h5.symm.trans (by decide : flowB 37 = false)))
theorem ok_go {s : ByteArray} {tight : Bool} {i : Nat} (h : okB s tight i = true) :
    uriB (bt s i) = true ∧ (((bt s i == 37) = true ∧ percB s i = true ∧ (bt s i == 33) = false ∧ flowB (bt s i) = false) ∨
    ((bt s i == 37) = false ∧ tight = false) ∨ ((bt s i == 37) = false ∧ tight = true ∧ (bt s i == 33) = false ∧ flowB (bt s i) = false)) := by
  unfold okB at h
  cases h1 : uriB (bt s i) <;> cases h2 : (bt s i == 37) <;> cases h3 : percB s i <;> cases tight <;> cases h4 : (bt s i == 33) <;> cases h5 : flowB (bt s i) <;> simp [h1, h2, h3, h4, h5] at h ⊢
  all_goals (rw [beq_iff_eq.1 h2] at h4 h5; first | exact Bool.noConfusion (h4.symm.trans (by decide : ((37 : Int) == 33) = false)) | exact Bool.noConfusion (h5.symm.trans (by decide : flowB 37 = false)))
theorem run_shift {p q : Nat → Bool} {f k l : Nat} (h : ∀ j, j < f → p (k + j) = q (l + j)) : runP p f k = runP q f l := by
  refine runP_eq (runP_le q f l) (fun j hj => ?_) (fun hj => ?_)
  · rw [h j (by have := runP_le q f l; omega)]; exact runP_all q f l j hj
  · rw [h _ hj]; exact runP_end q f l hj
theorem perc_ext {s : ByteArray} {k j : Nat} (h : k + j ≤ s.size) : percB (s.extract k s.size) j = percB s (k + j) := by
  have hz := size_ext s k s.size (Nat.le_refl _)
  unfold percB
  by_cases e : k + j + 3 ≤ s.size
  · rw [decide_eq_true e, decide_eq_true (by omega), bt_ext (Nat.le_refl _) (by omega), bt_ext (Nat.le_refl _) (by omega), show k + (j + 1) = k + j + 1 from by omega, show k + (j + 2) = k + j + 2 from by omega]
  · rw [decide_eq_false e, decide_eq_false (by omega)]; simp
theorem ok_ext {s : ByteArray} {tight : Bool} {k j : Nat} (h : k + j < s.size) : okB (s.extract k s.size) tight j = okB s tight (k + j) := by
  unfold okB
  rw [bt_ext (Nat.le_refl _) h, perc_ext (by omega)]
/-- How many bytes from place k on are those of a tag. -/
def urisN (s : ByteArray) (tight : Bool) (k : Nat) : Nat := runP (okB s tight) (s.size - k) k
theorem uris_ext {s : ByteArray} {tight : Bool} {k : Nat} (h : k ≤ s.size) : urisN (s.extract k s.size) tight 0 = urisN s tight k := by
  unfold urisN
  rw [size_ext s k s.size (Nat.le_refl _), Nat.sub_zero]
  exact run_shift fun j hj => by rw [Nat.zero_add]; exact ok_ext (by omega)
/-- How many bytes of a tag at k, with the first one, are words. -/
def wordsN (s : ByteArray) (k : Nat) : Nat := 1 + runP (fun i => wordB (bt s i)) (s.size - (k + 1)) (k + 1)
/-- The size of a handle that ends with a second sign; 0: none. -/
def handN (s : ByteArray) (k : Nat) : Nat := if k + wordsN s k < s.size ∧ bt s (k + wordsN s k) = 33 then wordsN s k + 1 else 0
/-- The size of the tag at k, at which its sign stands. -/
def sizeN (s : ByteArray) (k : Nat) : Nat :=
  if k + 1 < s.size ∧ bt s (k + 1) = 60 ∧ 0 < urisN s false (k + 2) ∧ k + 2 + urisN s false (k + 2) < s.size ∧ bt s (k + 2 + urisN s false (k + 2)) = 62 then urisN s false (k + 2) + 3
  else if 0 < handN s k ∧ 0 < urisN s true (k + handN s k) then handN s k + urisN s true (k + handN s k) else 1 + urisN s true (k + 1)
end Bk
set_option maxHeartbeats 400000 in
theorem hex_any (c : Int) (w : World) : Calls Try.prog 117 #[.int .u8 c] w fun e w' => e = .returned (.bool (Bk.hexB c)) ∧ w = w' := by
  go_enter Try.func117, Try.ntmps117
  go_wp2
  all_goals (go_ret; refine ⟨ret_bool ?_, rfl⟩; rw [Bool.eq_iff_iff]; simp [Bk.hexB]; omega)
set_option maxHeartbeats 400000 in
theorem percent_any (s : ByteArray) (w : World) : Calls Try.prog 115 #[.string s] w fun e w' => e = .returned (.bool (Bk.percB s 0)) ∧ w = w' := by
  have hb := get_bt s
  by_cases h3 : 3 ≤ s.size
  · have HP : Hid (Bk.percB s 0 = (Bk.hexB (bt s 1) && Bk.hexB (bt s 2))) := Lib.hid (by unfold Bk.percB; rw [decide_eq_true (by omega)]; rfl)
    cases h1 : Bk.hexB (bt s 1)
    all_goals
      go_enter Try.func115, Try.ntmps115
      go_wp2_with (go_at_call 117; refine (hex_any _ _).mono ?_; rintro e w' ⟨rfl, rfl⟩)
      go_ret
      exact ⟨ret_bool (by rw [HP.out, h1]; rfl), rfl⟩
  · have HP : Hid (Bk.percB s 0 = false) := Lib.hid (by unfold Bk.percB; rw [decide_eq_false (by omega)]; rfl)
    go_enter Try.func115, Try.ntmps115
    go_wp2
    go_ret
    exact ⟨ret_bool HP.out.symm, rfl⟩
set_option maxHeartbeats 3200000 in
theorem uris_any (s : ByteArray) (tight : Bool) (w : World) (hs : s.size ≤ 4611686018427387903) :
    Calls Try.prog 107 #[.string s, .bool tight] w fun e w' => e = .returned (.int .i64 (Bk.urisN s tight 0 : Nat)) ∧ w = w' := by
  have hb := get_bt s
  obtain ⟨p, hp⟩ : ∃ p, p = Bk.okB s tight := ⟨_, rfl⟩
  have HU : Hid (Bk.urisN s tight 0 = Bk.runP p s.size 0) := Lib.hid (by rw [hp]; rfl)
  have HP := Lib.hid hp
  clear hp
  cases tight
  all_goals
    go_enter Try.func107, Try.ntmps107
    go_wp2
    go_loop [5] (fun i => ∃ n : Nat, n ≤ s.size ∧ i = .int .i64 n ∧ Hid (∀ j, j < n → p (0 + j) = true)) (fun i => s.size - (intOf i).toNat)
    case atStart => exact ⟨0, by omega, rfl, Lib.hid fun j h => absurd h (by omega)⟩
    case round =>
      obtain ⟨n, hn, rfl, H⟩ := hrel
      by_cases hlt : n < s.size
      · have HPE : Hid (Bk.percB (s.extract n s.size) 0 = Bk.percB s n) := Lib.hid (Bk.perc_ext (j := 0) (by omega))
        cases hok : p n with
        | true =>
          have HK : Hid (p n = true) := Lib.hid hok
          rw [HP.out] at hok
          obtain ⟨h1, hw⟩ := Bk.ok_go hok
          clear hok
          rcases hw with ⟨h2, h3, h4, h5⟩ | ⟨h2, ht⟩ | ⟨h2, ht, h4, h5⟩ <;> (try (exfalso; exact Bool.noConfusion ht))
          all_goals
            (try clear ht)
            (try have h2' : (bt s n != 37) = !(bt s n == 37) := rfl)
            (try rw [h2] at h2')
            (try have h2'' := h2'.trans Bool.not_true)
            (try have h2'' := h2'.trans Bool.not_false)
            (try clear h2')
            go_wp2_with first
              | (go_at_call 30; refine (uri_any _ _).mono ?_; rintro e w' ⟨rfl, rfl⟩)
              | (go_at_call 115; refine (percent_any _ _).mono ?_; rintro e w' ⟨rfl, rfl⟩; rw [HPE.out])
              | (go_at_call 26; refine (flow_any _ _).mono ?_; rintro e w' ⟨rfl, rfl⟩)
            go_round
            case rel =>
              refine ⟨n + 1, by omega, by go_num, Lib.hid fun j hj => ?_⟩
              by_cases e : j = n
              · subst e; rw [Nat.zero_add]; exact HK.out
              · exact H.out j (by omega)
            case measure => simp [intOf]; omega
        | false =>
          have HE := Lib.hid (HU.out.trans (Bk.runP_eq hn H.out (fun _ => by rw [Nat.zero_add]; exact hok)))
          rw [HP.out] at hok
          have hw := Bk.ok_stop hok
          clear hok
          rcases hw with h1 | ⟨h1, h2, h3⟩ | ⟨h1, h2, ht, h4⟩ | ⟨h1, h2, ht, h4, h5⟩ <;> (try (exfalso; exact Bool.noConfusion ht))
          all_goals
            (try clear ht)
            (try have h2' : (bt s n != 37) = !(bt s n == 37) := rfl)
            (try rw [h2] at h2')
            (try have h2'' := h2'.trans Bool.not_true)
            (try have h2'' := h2'.trans Bool.not_false)
            (try clear h2')
            go_wp2_with first
              | (go_at_call 30; refine (uri_any _ _).mono ?_; rintro e w' ⟨rfl, rfl⟩)
              | (go_at_call 115; refine (percent_any _ _).mono ?_; rintro e w' ⟨rfl, rfl⟩; rw [HPE.out])
              | (go_at_call 26; refine (flow_any _ _).mono ?_; rintro e w' ⟨rfl, rfl⟩)
            go_ret
            exact ⟨ret_int (by rw [HE.out]), rfl⟩
      · have HE := Lib.hid (HU.out.trans (Bk.runP_eq hn H.out (fun h => absurd h hlt)))
        go_wp2
        go_ret
        exact ⟨ret_int (by rw [HE.out]), rfl⟩
end Go.Proofs.Ytmmhpejnfkienaa
