/- append of so many empty texts to a list of the call's own: laws of the operation, alone and in a region that draws its order. -/
import Derived.Test.YtmmhpejnfkienaaFold8
import Derived.Lib.AppendZerosOnto
import Derived.Deep.RegionLaw
namespace Go.Proofs.Ytmmhpejnfkienaa
open Go Go.RowKit Go.PlainAid
set_option linter.unusedVariables false
theorem zero_cells (k : Nat) : (Builtin.zeroCells #[Value.string ByteArray.empty] k).toList = List.replicate k (Value.string ByteArray.empty) := by
  apply List.ext_getElem?
  intro j
  simp only [Builtin.zeroCells, Array.toList_map, Array.toList_range, List.getElem?_map, List.getElem?_replicate]
  by_cases h : j < k
  · rw [if_pos h, List.getElem?_range (by simpa using h)]
    simp [Nat.mod_one]
  · rw [if_neg h, List.getElem?_eq_none (by simpa using h)]
    rfl
theorem run_zeros_own (B : Nat) (v : Value) (xs : List ByteArray) (w : World) (ty : TypeId) (k : Nat) (hown : Own B v xs w) (hn : xs.length + k ≤ 1000000) (hB : B ≤ w.heap.size) :
    ∃ v' w', (Builtin.append_ #[29, 3] ty #[v, .int .i64 k]).run Try.prog w = .ok v' w' ∧ Own B v' (xs ++ List.replicate k ByteArray.empty) w' ∧ w.grownBy w' v.ownBlock := by
  obtain ⟨i0, hi, hz0, hz1, hz2⟩ := info_parts Try.info9
  have hw : IntKind.i64.wrap (k : Int) = k := by rw [IntKind.wrap_i64]; omega
  have hneg : ¬ ((k : Int) < 0) := by omega
  have h48i : ¬ (281474976710656 < (k : Int) * 16) := by omega
  have hml : maxLen = 9223372036854775807 := rfl
  have hlen : ((xs ++ List.replicate k ByteArray.empty).map Value.string).length = (xs.length + k) * 1 := by simp
  have grown : ∀ (old : Nat), old < xs.length + k → ∀ (row : Option Nat),
      Own B (.slice (some ⟨w.heap.size, 0, none⟩) (xs.length + k) (grownCap w (xs.length + k) old 9)) (xs ++ List.replicate k ByteArray.empty)
        (w.drew.alloc (.cells ((xs.map Value.string).toArray ++ Builtin.zeroCells #[Value.string ByteArray.empty] k ++ Builtin.zeroCells #[Value.string ByteArray.empty] (grownCap w (xs.length + k) old 9 - (xs.length + k))) 9)) ∧
      w.grownBy (w.drew.alloc (.cells ((xs.map Value.string).toArray ++ Builtin.zeroCells #[Value.string ByteArray.empty] k ++ Builtin.zeroCells #[Value.string ByteArray.empty] (grownCap w (xs.length + k) old 9 - (xs.length + k))) 9)) row := by
    intro old ho row
    have hge := grownCap_ge w (xs.length + k) old 9
    have hcm : grownCap w (xs.length + k) old 9 ≤ maxLen := grownCap_le_maxLen w (xs.length + k) old 9 (by rw [hml]; omega)
    refine ⟨⟨by simp, .inr ⟨w.heap.size, grownCap w (xs.length + k) old 9, _, by rw [List.length_append, List.length_replicate], hB, heap_alloc_new w.drew _, ?_, hcm, ?_, ?_⟩⟩, ⟨rfl, rfl, rfl, by simp, fun j hj _ => heap_alloc_old w.drew _ hj⟩⟩
    · rw [List.length_append, List.length_replicate]; exact hge
    · simp only [Array.size_append, List.size_toArray, size_zeroCells, List.length_map]
      show xs.length + k * 1 + (_ - _) * 1 = _
      omega
    · simp only [Array.toList_append, List.append_assoc, zero_cells]
      rw [← List.append_assoc, List.length_append, List.length_replicate, List.map_append, List.map_replicate]
      exact List.take_left' (by simp)
  rcases hown.2 with ⟨rfl, hx⟩ | ⟨g, cap, cur, rfl, hbg, hg, hnc, hcm, hcs, htake⟩
  · have hx : xs = [] := List.eq_nil_of_length_eq_zero hx
    subst hx
    by_cases hk : k = 0
    · subst hk
      refine ⟨.slice none 0 0, w, ?_, own_nil _ _, ⟨rfl, rfl, rfl, Nat.le_refl _, fun _ _ _ => rfl⟩⟩
      simp [Builtin.append_, run_underlying Try.underlying29, run_underlying Try.underlying3, sizeOf, typeInfo, hi, hz2, asInt, asIntOf, IntKind.wrap_i64, Question.forced]
    · have hr := Lib.run_append_nil_zeros (P := Try.prog) w 29 3 ty 9 i0 (.string .empty) .i64 .i64 Try.underlying29 Try.underlying3 hi hz0 k (by omega) (by rw [hz1]; omega) (by omega) (by rw [hz2]; omega)
      have hgr := grown 0 (by simp; omega) (Value.ownBlock (.slice none 0 0))
      simp only [List.length_nil, Nat.zero_add, List.map_nil, List.nil_append, Array.empty_append] at hgr
      refine ⟨_, _, hr, ?_, ?_⟩
      · rw [List.nil_append]
        exact (by simpa using hgr.1 : Own B (.slice (some ⟨w.heap.size, 0, none⟩) k (grownCap w k 0 9)) (List.replicate k ByteArray.empty) (w.drew.alloc (.cells (Builtin.zeroCells #[Value.string ByteArray.empty] k ++ Builtin.zeroCells #[Value.string ByteArray.empty] (grownCap w k 0 9 - k)) 9)))
      · exact hgr.2
  · by_cases hroom : xs.length + k ≤ cap
    · have hst := run_storeCells_at Try.prog g (xs.length * 1) 9 (List.replicate k (Value.string ByteArray.empty)) 0 cur w hg (by simp; omega) (by intro u hu; rw [List.eq_of_mem_replicate hu]; rfl)
      simp only [Nat.add_zero, Nat.mul_one] at hst
      obtain ⟨c2, hc2⟩ : ∃ c2 : Array Value, c2 = (cur.toList.take xs.length ++ List.replicate k (Value.string ByteArray.empty) ++ cur.toList.drop (xs.length + k)).toArray := ⟨_, rfl⟩
      refine ⟨.slice (some ⟨g, 0, none⟩) (xs.length + k) cap, w.setRow g c2, ?_, ⟨by simp, .inr ⟨g, cap, c2, by rw [List.length_append, List.length_replicate], hbg, setRow_heap w g cur c2 9 _ hg, ?_, hcm, ?_, ?_⟩⟩, ⟨rfl, rfl, rfl, by simp, fun k _ hk => setRow_other w g k _ (fun e => hk (by simp [Value.ownBlock, e]))⟩⟩
      · subst hc2
        by_cases hk : k = 0
        · subst hk
          simp only [List.replicate_zero, List.append_nil, List.length_nil, Nat.add_zero] at hst ⊢
          have hst2 : (storeCells ⟨g, xs.length, none⟩ [] 0).run Try.prog w = .ok () (w.setRow g (cur.toList.take xs.length ++ cur.toList.drop xs.length).toArray) := hst
          simp at hroom
          simp [Builtin.append_, run_underlying Try.underlying29, run_underlying Try.underlying3, sizeOf, typeInfo, hi, hz2, asInt, asIntOf, IntKind.wrap_i64, Question.forced, hroom, Addr.add_lit, storeCells]
          rw [setRow_self w g cur 9 (0, 0) hg]
        · have hlr : (List.replicate k (Value.string ByteArray.empty)).length = k := by simp
          rw [hlr] at hst
          have hzc : (Builtin.zeroCells (Value.string ByteArray.empty).cells k).toList = List.replicate k (Value.string ByteArray.empty) := zero_cells k
          simp [Builtin.append_, run_underlying Try.underlying29, run_underlying Try.underlying3, sizeOf, typeInfo, zeroValue, hi, hz0, hz1, hz2, asInt, asIntOf, hw, hneg, h48i, hk, Question.forced, hroom, Addr.add_lit]
          rw [hzc, hst]
          simp
      · rw [List.length_append, List.length_replicate]; exact hroom
      · subst hc2; simp; omega
      · subst hc2
        rw [List.length_append, List.length_replicate, List.map_append, List.map_replicate]
        have ht2 : cur.toList.take xs.length = xs.map Value.string := by simpa using htake
        rw [ht2]
        simp only [Nat.mul_one]
        exact List.take_left' (by simp)
    · have hold := run_firstCells_some (P := Try.prog) w.drew i0.size xs.length ⟨g, 0, none⟩ xs.length cap (xs.map Value.string) (by rw [hz1]; simp) (fun j u hj => by
        have := hown.cells (g := g) rfl j u hj
        exact this)
      have hr := Lib.run_append_grow_zeros (P := Try.prog) w 29 3 ty 9 i0 (.string .empty) .i64 .i64 Try.underlying29 Try.underlying3 hi hz0 (some ⟨g, 0, none⟩) xs.length cap (xs.map Value.string) hold k (by omega) (by rw [hz1]; omega) (by omega) (by omega) (by rw [hz2]; omega) (growslice_fits (by omega) (by rw [hz2]; omega))
      have hgr := grown cap (by omega) (Value.ownBlock (.slice (some ⟨g, 0, none⟩) xs.length cap))
      exact ⟨_, _, hr, hgr.1, hgr.2⟩
/-- append of so many empty texts, as one step of a region that draws. -/
theorem step_zeros {ops : Array Oper} {o : Oper} {a : Act} {w0 wr : World} {K : Act → World → Prop} {Q : Exit → Act → World → Prop} {E : Prop}
    (hg : o.guard = none) (s x : Operand) (hop : o.op = Op.call { callee := Callee.builtin Builtin.append, args := #[s, x], argTypes := #[29, 3] })
    (v : Value) (xs : List ByteArray) (k : Nat) (hs : a.eval s = v) (hx : a.eval x = .int .i64 k) (hown : Hid (Own w0.heap.size v xs wr)) (hn : xs.length + k ≤ 1000000) (hb : Hid (Below w0.heap.size w0 wr))
    (hK : ∀ v' w', Hid (Own w0.heap.size v' (xs ++ List.replicate k ByteArray.empty) w') → Hid (Below w0.heap.size w0 w') → Hid (wr.grownBy w' v.ownBlock) → K (a.put o.dst v') w') :
    if Region.wanted o (yielded ops a.tmps) = true then Oper.wp Try.prog o a wr K Q else E := by
  have hw : Region.wanted o (yielded ops a.tmps) = true := by simp [Region.wanted, hg]
  rw [if_pos hw]
  obtain ⟨v', w', hr, h1, h2⟩ := run_zeros_own w0.heap.size v xs wr o.type k hown.out hn hb.out.size
  unfold Oper.wp execOp
  simp only [hop, resolve, invoke, builtin, Sem.run_bind, Sem.run_pure, Result.andThen_ok, List.map_toArray, List.map_cons, List.map_nil, hs, hx, hr]
  exact hK v' w' (Lib.hid h1) (Lib.hid (hb.out.grown h2 hb.out.size (fun k hk => (World.ownsRow.lt hown.out k hk).1))) (Lib.hid h2)
/-- append of one text that a block of the call's own holds, as one step of a region that draws. -/
theorem step_one {ops : Array Oper} {o : Oper} {a : Act} {w0 wr : World} {K : Act → World → Prop} {Q : Exit → Act → World → Prop} {E : Prop}
    (hg : o.guard = none) (s x : Operand) (hop : o.op = Op.call { callee := Callee.builtin Builtin.append, args := #[s, x], argTypes := #[29, 29] })
    (v : Value) (xs : List ByteArray) (t : ByteArray) (b : Nat) (hs : a.eval s = v) (hx : a.eval x = .slice (some ⟨b, 0, none⟩) 1 1) (hc : Hid (wr.cell? ⟨b, 0, none⟩ = some (.string t)))
    (hown : Hid (Own w0.heap.size v xs wr)) (hn : xs.length + 1 ≤ 1000000) (hb : Hid (Below w0.heap.size w0 wr))
    (hK : ∀ v' w', Hid (Own w0.heap.size v' (xs ++ [t]) w') → Hid (Below w0.heap.size w0 w') → K (a.put o.dst v') w') :
    if Region.wanted o (yielded ops a.tmps) = true then Oper.wp Try.prog o a wr K Q else E := by
  have hw : Region.wanted o (yielded ops a.tmps) = true := by simp [Region.wanted, hg]
  rw [if_pos hw]
  obtain ⟨i0, hi, hz0, hz1, hz2⟩ := info_parts Try.info9
  refine wp_append_own wr s x 29 hop w0.heap.size 9 i0 (.string .empty) 1 16 Try.underlying29 hi hz0 hz1 hz2 rfl (by decide) v xs.length (xs.map Value.string) hs hown.out ⟨b, 0, none⟩ 1 1 [.string t] hx rfl ?_ ?_ ?_ ?_ hb.out.size ?_
  · intro j u hj
    match j, hj with
    | 0, hj => simp at hj; subst hj; simpa [Addr.add] using hc.out
    | j + 1, hj => simp at hj
  · intro u hu; simp at hu; subst hu; rfl
  · unfold maxLen; omega
  · omega
  · intro v' w' hown' hgrow _
    refine hK v' w' (Lib.hid ?_) (Lib.hid (hb.out.grown hgrow hb.out.size (fun k hk => (World.ownsRow.lt hown.out k hk).1)))
    show World.ownsRow _ _ _ _ _ _ _
    rw [List.length_append, List.map_append]
    exact hown'
end Go.Proofs.Ytmmhpejnfkienaa
