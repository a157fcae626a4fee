/- Lists of texts: a whole one laid anew, one of its texts made nothing; lists of bools that came in; Long of any list. -/
import Derived.Test.YtmmhpejnfkienaaFoldOne
import Derived.Laws.AppendOwnNone
namespace Go.Proofs.Ytmmhpejnfkienaa
open Go Go.RowKit Go.PlainAid
set_option linter.unusedVariables false
def BoolsAt (w : World) (a : Option Addr) (len : Nat) (zs : Nat → Bool) : Prop :=
  len ≤ 9223372036854775807 ∧ (len = 0 ∨ ∃ b off, a = some ⟨b, off, none⟩ ∧ b < w.heap.size ∧ ∀ j, j < len → w.cell? ⟨b, off + j, none⟩ = some (.bool (zs j)))
theorem app_all {ops : Array Oper} {rest : List Oper} {o : Oper} {a : Act} {Q : Exit → Act → World → Prop} {w0 wr : World} (hgd : o.guard = none) (s x : Operand)
    (ho : o.op = .call { callee := .builtin .append, args := #[s, x], argTypes := #[29, 29] }) (a0 : Option Addr) (len cap : Nat) (xs : List ByteArray) (hs : a.eval s = .slice none 0 0)
    (hx : a.eval x = .slice a0 len cap) (hcap : a0 = none → cap = 0) (hst : Hid (StrsAt wr a0 len xs)) (hlen : len ≤ 1000000) (hb : Hid (Below w0.heap.size w0 wr))
    (h : ∀ v' w', Hid (Own w0.heap.size v' xs w') → Hid (Below w0.heap.size w0 w') → wpList Try.prog ops Q rest (a.put o.dst v') w') :
    wpList Try.prog ops Q (o :: rest) a wr := by
  obtain ⟨i0, hi, hz0, hz1, hz2⟩ := info_parts Try.info9
  have hB : w0.heap.size ≤ wr.heap.size := hb.out.size
  obtain ⟨hl, hm, hc⟩ := hst.out
  cases a0 with
  | none =>
    have h0 : len = 0 := by
      rcases hc with hc | ⟨b, off, hc, _⟩
      · exact hc
      · cases hc
    have hxs : xs = [] := List.eq_nil_of_length_eq_zero (by omega)
    subst hxs
    have hcp := hcap rfl
    subst h0 hcp
    exact wpList_append_own_none hgd s x 29 ho w0.heap.size 9 i0 1 Try.underlying29 hi (.slice none 0 0) 0 [] hs (World.ownsRow_nil _ _ _ _) hx (h _ _ (own_nil _ _) hb)
  | some ad =>
    refine wpList_append_own _ hgd s x 29 ho w0.heap.size 9 i0 (.string .empty) 1 16 Try.underlying29 hi hz0 hz1 hz2 rfl (by decide) (.slice none 0 0) 0 [] hs (World.ownsRow_nil _ _ _ _) ad len cap (xs.map Value.string) hx (by simp [hl]) ?_ ?_ ?_ ?_ hB ?_
    · intro j u hj
      rcases hc with hc | ⟨b, off, hc, hb2, hcell⟩
      · have : xs = [] := List.eq_nil_of_length_eq_zero (by omega)
        subst this; simp at hj
      · cases hc
        have hjl : j < len := by
          rcases Nat.lt_or_ge j xs.length with h' | h'
          · omega
          · rw [List.getElem?_eq_none (by simpa using h')] at hj; cases hj
        have e := hcell j hjl
        rw [List.getElem?_map, List.getElem?_eq_getElem (by omega)] at hj
        rw [List.getD_eq_getElem?_getD, List.getElem?_eq_getElem (by omega)] at e
        simp at hj
        subst hj
        by_cases e0 : j = 0
        · subst e0; simpa [Addr.add] using e
        · simpa [Addr.add, e0] using e
    · intro u hu
      obtain ⟨t, _, rfl⟩ := List.mem_map.1 hu
      rfl
    · unfold maxLen; omega
    · omega
    · intro v' w' hown' hgrow _
      refine h v' w' ?_ ?_
      · show World.ownsRow _ _ _ _ _ _ _
        rw [List.nil_append, Nat.zero_add] at hown'
        rw [hl]
        exact hown'
      · exact hb.out.grown hgrow hB (fun k hk => by simp [Value.ownBlock] at hk)
theorem own_set {B g n cap k : Nat} {ys : List ByteArray} {w : World} (h : Own B (.slice (some ⟨g, 0, none⟩) n cap) ys w) (hk : k < ys.length) :
    w.cell? ⟨g, k, none⟩ = some (.string (Bk.rowAt ys k)) ∧ w.frozen? ⟨g, k, none⟩ = false ∧ B ≤ g ∧ Own B (.slice (some ⟨g, 0, none⟩) n cap) (ys.set k ⟨#[]⟩) (w.setCell ⟨g, k, none⟩ (.string ⟨#[]⟩)) := by
  rcases h.2 with ⟨hv, h0⟩ | ⟨g', cap', cur, hv, hg, hgb, hn, hm, hs, ht⟩
  · omega
  · cases hv
    have hcell : w.cell? ⟨g, k, none⟩ = some (.string (Bk.rowAt ys k)) := by
      rw [Lib.cell_of_heap hgb]
      have h2 : (cur.toList.take (ys.length * 1))[k]? = (ys.map Value.string)[k]? := by rw [ht]
      rw [List.getElem?_take_of_lt (by omega), Array.getElem?_toList] at h2
      rw [h2, List.getElem?_map, List.getElem?_eq_getElem hk]
      unfold Bk.rowAt
      rw [List.getD_eq_getElem?_getD, List.getElem?_eq_getElem hk]
      rfl
    refine ⟨hcell, Lib.frozen_of_heap hgb k, hg, ?_⟩
    have hb2 : (w.setCell ⟨g, k, none⟩ (.string ⟨#[]⟩)).heap[g]? = some (.cells (cur.set! k (.string ⟨#[]⟩)) 9 (0, 0)) := by
      simp [World.setCell, Array.getElem?_modify, hgb]
    refine ⟨by simp, .inr ⟨g, cap, cur.set! k (.string ⟨#[]⟩), ?_, hg, hb2, ?_, hm, ?_, ?_⟩⟩
    · rw [List.length_set]
    · rw [List.length_set]; exact hn
    · simpa using hs
    · rw [List.length_set]
      simp only [Array.set!_eq_setIfInBounds, Array.toList_setIfInBounds]
      rw [List.take_set, ht, List.map_set]
theorem strsAt_of {w : World} {x : Addr} {len cap : Nat} {ss : List ByteArray} (hz : ss.length = cap) (hl : len ≤ cap) (h20 : len ≤ 20)
    (hc : ∀ i, i < ss.length → w.cell? (x.add i) = some (.string (ss.getD i ByteArray.empty))) : StrsAt w (some x) len (ss.take len) := by
  refine ⟨by rw [List.length_take]; omega, by omega, ?_⟩
  by_cases h0 : len = 0
  · exact .inl h0
  · obtain ⟨b, off, spot⟩ := x
    have hc0 := hc 0 (by omega)
    have hspot : spot = none := by simpa [Addr.add] using World.cell?_spot hc0
    subst hspot
    refine .inr ⟨b, off, rfl, World.block_lt_of_cell? w _ hc0, fun j hj => ?_⟩
    have := hc j (by omega)
    have e2 : (ss.take len).getD j ByteArray.empty = ss.getD j ByteArray.empty := by
      rw [List.getD_eq_getElem?_getD, List.getD_eq_getElem?_getD, List.getElem?_take_of_lt hj]
    rw [e2]
    by_cases e : j = 0
    · subst e; simpa [Addr.add] using this
    · simpa [Addr.add, e] using this
theorem boolsAt_of {w : World} {x : Addr} {len cap : Nat} {B : Nat → Bool} (hl : len ≤ cap) (hm : cap ≤ maxLen)
    (hc : ∀ i, i < cap → w.cell? (x.add i) = some (.bool (B i))) : BoolsAt w (some x) len B := by
  refine ⟨by unfold maxLen at hm; omega, ?_⟩
  by_cases h0 : len = 0
  · exact .inl h0
  · obtain ⟨b, off, spot⟩ := x
    have hc0 := hc 0 (by omega)
    have hspot : spot = none := by simpa [Addr.add] using World.cell?_spot hc0
    subst hspot
    refine .inr ⟨b, off, rfl, World.block_lt_of_cell? w _ hc0, fun j hj => ?_⟩
    have := hc j (by omega)
    by_cases e : j = 0
    · subst e; simpa [Addr.add] using this
    · simpa [Addr.add, e] using this
namespace Bk
theorem row_set {ys : List ByteArray} {k M : Nat} (h : ∀ j, (rowAt ys j).size ≤ M) : ∀ j, (rowAt (ys.set k ⟨#[]⟩) j).size ≤ M := by
  intro j
  have hj := h j
  unfold rowAt at hj ⊢
  rw [List.getD_eq_getElem?_getD, List.getElem?_set]
  by_cases e : k = j
  · rw [if_pos e]
    by_cases e2 : k < ys.length
    · rw [if_pos e2]; exact Nat.zero_le _
    · rw [if_neg e2]; exact Nat.zero_le _
  · rw [if_neg e, ← List.getD_eq_getElem?_getD]; exact hj
theorem sumZ_small {ys : List ByteArray} {M : Nat} (h : ∀ j, (rowAt ys j).size ≤ M) : ∀ i, sumZ ys i ≤ (M + 1) * i
  | 0 => Nat.le_refl _
  | i + 1 => by
    have ih := sumZ_small h i
    have := h i
    show sumZ ys i + _ + 1 ≤ _
    rw [Nat.mul_succ]; omega
theorem longB_rows : ∀ (xs : List ByteArray) (n : Int), longB n (xs.map (·.size)) = false → ∀ j, j < xs.length → ((rowAt xs j).size : Int) < n
  | [], _, _, j, h => by simp at h
  | x :: xs, n, h, j, hj => by
    rw [List.map_cons, longB_cons] at h
    by_cases e : n ≤ (x.size : Int)
    · rw [if_pos e] at h; cases h
    · rw [if_neg e] at h
      cases j with
      | zero => show (x.size : Int) < n; omega
      | succ j =>
        have := longB_rows xs _ h j (by simpa using hj)
        have e2 : rowAt (x :: xs) (j + 1) = rowAt xs j := rfl
        rw [e2]; omega
end Bk
set_option maxHeartbeats 800000 in
theorem long_strs (n : Int) (a : Option Addr) (len cap : Nat) (xs : List ByteArray) (w : World) (hn : 0 ≤ n) (hn' : n ≤ 1000000) (hst : StrsAt w a len xs) :
    Calls Try.prog 37 #[.int .i64 n, .slice a len cap] w fun e w' => e = .returned (.bool (Bk.longB n (xs.map (·.size)))) ∧ w = w' := by
  obtain ⟨hl, hm, hc⟩ := hst
  rcases hc with h0 | ⟨b, off, rfl, hb, hc⟩
  · subst h0
    have hxs : xs = [] := List.eq_nil_of_length_eq_zero hl
    subst hxs
    go_enter Try.func37, Try.ntmps37
    go_wp2_with fail
    go_loop [0, 5] (fun m i => m = .int .i64 n ∧ i = .int .i64 0) (fun _ i => 0)
    case atStart => exact ⟨rfl, rfl⟩
    case round =>
      obtain ⟨rfl, rfl⟩ := hrel
      go_wp2_with fail
      go_ret
      exact ⟨rfl, rfl⟩
  · exact long_any n b off len cap xs w hn hn' hl (by omega) hc
end Go.Proofs.Ytmmhpejnfkienaa
