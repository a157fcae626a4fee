/- Lists of texts that a call has made itself: one more behind. -/
import Derived.Test.YtmmhpejnfkienaaFold6
import Derived.WalkKit
namespace Go.Proofs.Ytmmhpejnfkienaa
open Go Go.RowKit Go.PlainAid
set_option linter.unusedVariables false
/-- A list of texts in a row of the call's own. -/
def Own (B : Nat) (v : Value) (xs : List ByteArray) (w : World) : Prop := w.ownsRow B 9 1 v xs.length (xs.map Value.string)
theorem own_nil (B : Nat) (w : World) : Own B (.slice none 0 0) [] w := World.ownsRow_nil w B 9 1
theorem Own.below {B : Nat} {v : Value} {xs : List ByteArray} {w w' : World} (h : Own B v xs w) (k : Below w.heap.size w w') : Own B v xs w' := by
  refine ⟨h.1, ?_⟩
  rcases h.2 with hn | ⟨g, cap, cur, hv, hg, hgb, rest⟩
  · exact .inl hn
  · refine .inr ⟨g, cap, cur, hv, hg, (k.block g ?_).trans hgb, rest⟩
    rcases Nat.lt_or_ge g w.heap.size with h' | h'
    · exact h'
    · simp [Array.getElem?_eq_none h'] at hgb
theorem own_strs {B : Nat} {v : Value} {xs : List ByteArray} {w : World} (h : Own B v xs w) (hx : xs.length ≤ 140737488355328) :
    ∃ a cap, v = .slice a xs.length cap ∧ StrsAt w a xs.length xs ∧ xs.length ≤ cap := by
  rcases h.2 with ⟨hv, h0⟩ | ⟨g, cap, cur, hv, hg, hgb, hn, hm, hs, ht⟩
  · refine ⟨none, 0, ?_, ⟨rfl, hx, .inl h0⟩, by omega⟩
    rw [h0]; exact hv
  · refine ⟨some ⟨g, 0, none⟩, cap, hv, ⟨rfl, hx, .inr ⟨g, 0, rfl, (Array.getElem?_eq_some_iff.1 hgb).1, fun j hj => ?_⟩⟩, hn⟩
    rw [Nat.zero_add, Lib.cell_of_heap hgb]
    have h2 : (cur.toList.take (xs.length * 1))[j]? = (xs.map Value.string)[j]? := by rw [ht]
    rw [List.getElem?_take_of_lt (by omega), Array.getElem?_toList] at h2
    rw [h2, List.getElem?_map, List.getElem?_eq_getElem hj, List.getD_eq_getElem?_getD, List.getElem?_eq_getElem hj]
    rfl
theorem Try.info9 : (Try.prog.info? 9).map (fun i => (i.zero, i.size, i.bytes)) = some (some (.string .empty), 1, 16) := by kernel_rfl
theorem app_one {ops : Array Oper} {rest : List Oper} {o : Oper} {a : Act} {Q : Exit → Act → World → Prop} {w0 wr : World} (hgd : o.guard = none) (s x : Operand)
    (ho : o.op = .call { callee := .builtin .append, args := #[s, x], argTypes := #[29, 29] }) (v : Value) (xs : List ByteArray) (t : ByteArray) (hs : a.eval s = v)
    (hx : a.eval x = .slice (some ⟨wr.heap.size, 0, none⟩) 1 1) (hown : Hid (Own w0.heap.size v xs wr)) (hlen : xs.length ≤ 1000000) (hb : Hid (Below w0.heap.size w0 wr))
    (h : ∀ v' w', Hid (Own w0.heap.size v' (xs ++ [t]) w') → Hid (Below w0.heap.size w0 w') → wpList Try.prog ops Q rest (a.put o.dst v') w') :
    wpList Try.prog ops Q (o :: rest) a (wr.alloc (.cells #[.string t] 9)) := by
  obtain ⟨i0, hi, hz0, hz1, hz2⟩ := info_parts Try.info9
  have hB : w0.heap.size ≤ wr.heap.size := hb.out.size
  refine wpList_append_own _ hgd s x 29 ho w0.heap.size 9 i0 (.string .empty) 1 16 Try.underlying29 hi hz0 hz1 hz2 rfl (by decide) v xs.length (xs.map Value.string) hs (World.ownsRow.alloc hown.out _) ⟨wr.heap.size, 0, none⟩ 1 1 [.string t] hx rfl ?_ ?_ ?_ ?_ ?_ ?_
  · intro j u hj
    match j, hj with
    | 0, hj => simp at hj; subst hj; simp [Addr.add]
    | j + 1, hj => simp at hj
  · intro u hu; simp at hu; subst hu; rfl
  · unfold maxLen; omega
  · omega
  · simp; omega
  · intro v' w' hown' hgrow _
    refine h v' w' ?_ ?_
    · show World.ownsRow _ _ _ _ _ _ _
      rw [List.length_append, List.map_append]
      exact hown'
    · exact (hb.out.alloc hB _).grown hgrow (by simp; omega) (fun k hk => (World.ownsRow.lt hown.out k hk).1)
end Go.Proofs.Ytmmhpejnfkienaa
