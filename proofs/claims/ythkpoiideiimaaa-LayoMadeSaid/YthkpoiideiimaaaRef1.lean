/- One, Runes, Width of the reference, at texts of code points of one byte, and of é: contracts. -/
import Derived.Test.YthkpoiideiimaaaLay4
import Derived.Test.YthkpoiideiimaaaLay6
namespace Go.Proofs.Ythkpoiideiimaaa
open Go Go.RowKit Go.PlainAid
set_option linter.unusedVariables false
namespace Bk
/-- The first code point of such a text. -/
theorem gd_head {b : ByteArray} {n : Nat} (h : Gd b n) : b.size = 0 ∨ ∃ x y m, b = x ++ y ∧ Gd y m ∧ n = m + 1 ∧ ((∃ c : UInt8, x = ⟨#[c]⟩ ∧ c.toNat < 128) ∨ x = ⟨#[195, 169]⟩) := by
  induction h with
  | nil => exact .inl rfl
  | @asc s n c h hc ih =>
    right
    rcases ih with h0 | ⟨x, y, m, rfl, hy, rfl, hx⟩
    · have e : s = ByteArray.empty := ba_ext (by rw [h0]; rfl) (fun j hj => by omega)
      subst e
      have hn : n = 0 := by have := h.le; omega
      subst hn
      exact ⟨⟨#[c]⟩, ByteArray.empty, 0, by rw [ByteArray.empty_append, ByteArray.append_empty], .nil, rfl, .inl ⟨c, rfl, hc⟩⟩
    · exact ⟨x, y ++ ⟨#[c]⟩, m + 1, by rw [ByteArray.append_assoc], .asc c hy hc, rfl, hx⟩
  | @e s n h ih =>
    right
    rcases ih with h0 | ⟨x, y, m, rfl, hy, rfl, hx⟩
    · have e : s = ByteArray.empty := ba_ext (by rw [h0]; rfl) (fun j hj => by omega)
      subst e
      have hn : n = 0 := by have := h.le; omega
      subst hn
      exact ⟨⟨#[195, 169]⟩, ByteArray.empty, 0, by rw [ByteArray.empty_append, ByteArray.append_empty], .nil, rfl, .inr rfl⟩
    · exact ⟨x, y ++ ⟨#[195, 169]⟩, m + 1, by rw [ByteArray.append_assoc], .e hy, rfl, hx⟩
/-- What stands from a boundary on. -/
inductive At (s : ByteArray) (k m p : Nat) : Prop
  | mk (a b : ByteArray) (h : s = a ++ b) (ha : Gd a k) (hb : Gd b m) (hp : a.size = p) : At s k m p
theorem at_start {s : ByteArray} {n : Nat} (h : Gd s n) : At s 0 n 0 := ⟨ByteArray.empty, s, by rw [ByteArray.empty_append], .nil, h, rfl⟩
theorem at_end {s : ByteArray} {k m p : Nat} (h : At s k m p) (hp : s.size ≤ p) : m = 0 ∧ widS s = k := by
  obtain ⟨a, b, rfl, ha, hb, rfl⟩ := h
  rw [size_app] at hp
  have hm : m = 0 := by have := hb.le; omega
  subst hm
  exact ⟨rfl, (ha.app hb).wid⟩
/-- At a boundary: a byte, or é; the next boundary. -/
theorem at_next {s : ByteArray} {k m p : Nat} (h : At s k m p) (hp : p < s.size) :
    (bt s p < 128 ∧ At s (k + 1) (m - 1) (p + 1)) ∨ (p + 1 < s.size ∧ bt s p = 195 ∧ bt s (p + 1) = 169 ∧ At s (k + 1) (m - 1) (p + 2)) := by
  obtain ⟨a, b, rfl, ha, hb, rfl⟩ := h
  rw [size_app] at hp
  rcases gd_head hb with h0 | ⟨x, y, m', rfl, hy, rfl, ⟨c, rfl, hc⟩ | rfl⟩
  · omega
  · left
    rw [size_app] at hp
    have h1 : (⟨#[c]⟩ : ByteArray).size = 1 := rfl
    refine ⟨?_, a ++ ⟨#[c]⟩, y, by rw [ByteArray.append_assoc], .asc c ha hc, hy, by rw [size_app, h1]⟩
    rw [bt_right (Nat.le_refl _) (by rw [size_app]; omega), Nat.sub_self, bt_left (by omega)]
    have := bt_get (s := ⟨#[c]⟩) (k := 0) (by omega)
    rw [← this]
    show ((c.toNat : Nat) : Int) < 128
    omega
  · right
    have h1 : (⟨#[195, 169]⟩ : ByteArray).size = 2 := rfl
    rw [size_app] at hp
    refine ⟨by rw [size_app, size_app]; omega, ?_, ?_, a ++ ⟨#[195, 169]⟩, y, by rw [ByteArray.append_assoc], .e ha, hy, by rw [size_app, h1]⟩
    · rw [bt_right (Nat.le_refl _) (by rw [size_app]; omega), Nat.sub_self, bt_left (by omega)]; decide
    · rw [bt_right (by omega) (by rw [size_app]; omega), Nat.add_sub_cancel_left, bt_left (by omega)]; decide
end Bk
set_option maxHeartbeats 800000 in
theorem one_asc (s : ByteArray) (p : Nat) (w : World) (hz : s.size ≤ 100000000) (hp : p < s.size) (h : bt s p < 128) :
    Calls Try.prog 34 #[.string s, .int .i64 p] w fun e w' => e = .returned (.tuple #[.int .i32 (bt s p), .int .i64 1]) ∧ w = w' := by
  have hb := get_bt s
  have h0 := bt_nonneg s p
  have h1 := bt_le s p
  go_enter Try.func34, Try.ntmps34
  go_wp2_with fail
  go_ret2
  exact ⟨rfl, rfl⟩
set_option maxHeartbeats 1600000 in
theorem one_e (s : ByteArray) (p : Nat) (w : World) (hz : s.size ≤ 100000000) (hp : p + 1 < s.size) (h : bt s p = 195) (h2 : bt s (p + 1) = 169) :
    Calls Try.prog 34 #[.string s, .int .i64 p] w fun e w' => e = .returned (.tuple #[.int .i32 233, .int .i64 2]) ∧ w = w' := by
  have hb := get_bt s
  go_enter Try.func34, Try.ntmps34
  go_wp2_with fail
  go_loop [9, 10] (fun r i => (r = .int .i32 3 ∧ i = .int .i64 1) ∨ (r = .int .i32 233 ∧ i = .int .i64 2)) (fun _ i => 2 - (intOf i).toNat)
  case atStart => exact .inl ⟨by rfl, by rfl⟩
  case round =>
    rcases hrel with ⟨rfl, rfl⟩ | ⟨rfl, rfl⟩
    · go_wp2_with fail
      go_round
      case rel => exact .inr ⟨by rfl, by rfl⟩
      case measure => simp [intOf]
    · go_wp2_with fail
      go_ret2
      exact ⟨rfl, rfl⟩
/-- Runes so far. -/
def RnAt (B k : Nat) (v : Value) (w : World) : Prop := ∃ xs, w.ownsRow B 21 1 v k xs
theorem Try.info21 : (Try.prog.info? 21).map (fun i => (i.zero, i.size, i.bytes)) = some (some (.int .i32 0), 1, 4) := by kernel_rfl
theorem app_rn {ops : Array Oper} {rest : List Oper} {o : Oper} {a : Act} {Q : Exit → Act → World → Prop} {w0 wr wx : World} (hgd : o.guard = none) (s x : Operand)
    (ho : o.op = .call { callee := .builtin .append, args := #[s, x], argTypes := #[72, 72] }) (v : Value) (k : Nat) (r : Int) (hs : a.eval s = v)
    (hx : a.eval x = .slice (some ⟨wr.heap.size, 0, none⟩) 1 1) (hown : Hid (RnAt w0.heap.size k v wr)) (hlen : k ≤ 1000000000) (hwx : wx = wr.alloc (.cells #[.int .i32 r] 21)) (hb : Hid (Below w0.heap.size w0 wr))
    (h : ∀ v' w', Hid (RnAt w0.heap.size (k + 1) v' w') → Hid (Below w0.heap.size w0 w') → wpList Try.prog ops Q rest (a.put o.dst v') w') :
    wpList Try.prog ops Q (o :: rest) a wx := by
  subst hwx
  obtain ⟨i0, hi, hz0, hz1, hz2⟩ := info_parts Try.info21
  obtain ⟨xs, hxs⟩ := hown.out
  have hB : w0.heap.size ≤ wr.heap.size := hb.out.size
  refine wpList_append_lies _ hgd s x 72 ho w0.heap.size 21 i0 _ 1 4 Try.underlying72 hi hz0 hz1 hz2 rfl (by decide) v k xs hs (World.ownsRow.alloc hxs _) ⟨wr.heap.size, 0, none⟩ 1 1 [.int .i32 r] hx rfl ?_ ?_ (by decide) ?_ ?_ ?_ (wr.heap.size + 1) (by simp) ?_
  · exact fun j u hu => World.news_of_block (heap_alloc_new wr (.cells #[.int .i32 r] 21)) j u (by simpa using hu)
  · simp [Value.oneCell']
  · unfold maxLen; omega
  · omega
  · simp; omega
  · intro g cap w' hown' hgrow hg hlt
    exact h _ w' (Lib.hid ⟨_, hown'⟩) (Lib.hid ((hb.out.alloc hB _).grown hgrow (by simp; omega) (fun k hk => (World.ownsRow.lt hxs k hk).1)))
theorem rn_slice {B k : Nat} {v : Value} {w : World} (h : RnAt B k v w) : ∃ a cp, v = .slice a k cp := by
  obtain ⟨xs, h⟩ := h
  rcases h.2 with ⟨hv, h0⟩ | ⟨g, cap, cur, hv, _⟩
  · exact ⟨none, 0, by rw [hv, h0]⟩
  · exact ⟨_, _, hv⟩
set_option maxRecDepth 20000 in
set_option maxHeartbeats 3200000 in
theorem runes_any (s : ByteArray) (n : Nat) (w : World) (hs : s.size ≤ 100000000) (hg : Bk.Gd s n) :
    Calls Try.prog 29 #[.string s] w fun e w' => (∃ a cp, e = .returned (.slice a (Bk.widS s) cp)) ∧ Below w.heap.size w w' := by
  have hb := get_bt s
  have HG := Lib.hid (Bk.at_start hg)
  have HN : Hid (RnAt w.heap.size 0 (.slice none 0 0) w) := Lib.hid ⟨[], World.ownsRow_nil _ _ _ _⟩
  clear hg
  go_enter Try.func29, Try.ntmps29
  go_wp2_with fail
  go_loopw [3, 4] (fun v i wr => ∃ (k m p : Nat), p ≤ s.size ∧ k ≤ p ∧ i = .int .i64 p ∧ Hid (Bk.At s k m p) ∧ Hid (RnAt w.heap.size k v wr) ∧ Hid (Below w.heap.size w wr)) (fun _ i _ => s.size - (intOf i).toNat)
  case atStart => exact ⟨0, n, 0, by omega, by omega, rfl, HG, HN, Lib.hid (Below.refl _ _)⟩
  case round =>
    obtain ⟨k, m, p, hp, hkp, rfl, HA, HV, HW⟩ := hrel
    by_cases hlt : p < s.size
    · rcases Bk.at_next HA.out hlt with ⟨h1, hA⟩ | ⟨hp1, h1, h2, hA⟩
      · have HA2 := Lib.hid hA
        obtain ⟨c, hc⟩ : ∃ c, c = bt s p := ⟨_, rfl⟩
        have HC := Lib.hid hc
        have H1 := Lib.hid h1
        clear hA h1 hc
        go_wp2_with first
          | (go_at_call 34; refine (one_asc s p _ hs hlt H1.out).mono ?_; rintro e w' ⟨rfl, rfl⟩; rw [← HC.out])
          | (at_builtin; refine app_rn (w0 := w) rfl (.tmp 19) (.tmp 21) rfl u3 k c rfl rfl HV (by omega) (by rfl) HW ?_; intro v3 w3 HV3 HW3)
        go_roundw
        case rel => exact ⟨k + 1, m - 1, p + 1, by omega, by omega, by go_num, HA2, HV3, HW3⟩
        case measure => simp [intOf]; omega
      · have HA2 := Lib.hid hA
        have H1 := Lib.hid h1
        have H2 := Lib.hid h2
        clear hA h1 h2
        go_wp2_with first
          | (go_at_call 34; refine (one_e s p _ hs hp1 H1.out H2.out).mono ?_; rintro e w' ⟨rfl, rfl⟩)
          | (at_builtin; refine app_rn (w0 := w) rfl (.tmp 19) (.tmp 21) rfl u3 k 233 rfl rfl HV (by omega) (by rfl) HW ?_; intro v3 w3 HV3 HW3)
        go_roundw
        case rel => exact ⟨k + 1, m - 1, p + 2, by omega, by omega, by go_num, HA2, HV3, HW3⟩
        case measure => simp [intOf]; omega
    · have hE := (Bk.at_end HA.out (by omega)).2
      obtain ⟨a, cp, hv⟩ := rn_slice HV.out
      have HE := Lib.hid hE
      subst hv
      clear hE
      go_wp2_with fail
      go_ret
      exact ⟨⟨a, cp, by rw [HE.out]; rfl⟩, HW.out⟩
set_option maxHeartbeats 800000 in
theorem width23_any (s : ByteArray) (n : Nat) (w : World) (hs : s.size ≤ 100000000) (hg : Bk.Gd s n) :
    Calls Try.prog 23 #[.string s] w fun e w' => e = .returned (.int .i64 (Bk.widS s : Nat)) ∧ Below w.heap.size w w' := by
  go_enter Try.func23, Try.ntmps23
  go_wp2_with (go_at_call 29; refine (runes_any s n _ hs hg).mono ?_; rintro e w1 ⟨⟨a, cp, rfl⟩, hg1⟩)
  go_ret
  exact ⟨rfl, hg1⟩
end Go.Proofs.Ythkpoiideiimaaa
