/- The teller of package layo: its builder's methods where it lies in a field: contracts. -/
import Derived.Test.YthkpoiideiimaaaShelf
import Derived.Test.YthkpoiideiimaaaLay8
import Derived.Lib.Builder
import Derived.Lib.AppendStr
import Derived.Lib.UnsafeStr
import Derived.Laws.Externs
import Derived.RegionTactic
import Derived.BigRegion
namespace Go.Proofs.Ythkpoiideiimaaa
open Go Go.RowKit Go.PlainAid
set_option linter.unusedVariables false
open Bk (Fo)
theorem Try.info5 : (Try.prog.info? 5).map (fun i => (i.zero, i.size, i.bytes)) = some (some (.int .u8 0), 1, 1) := by kernel_rfl
theorem Try.size52 : (Try.prog.info? 52).map (·.size) = some 2 := by kernel_rfl
theorem Try.lies52 : liesAt Try.prog Try.prog.depth 54 (5 / Try.prog.cellsOf 54) 0 52 1 = true := by kernel_rfl
/-- The teller's block: what its builder's first field holds, the buffer, the width, the column, has the row begun; what was told. -/
def TlP (p v : Value) (N b : Nat) (W col : Int) (bg : Bool) (t : ByteArray) (w : World) : Prop :=
  b < N ∧ N ≤ w.heap.size ∧ w.heap[b]? = some (.cells #[p, v, .int .i64 W, .int .i64 col, .bool bg] 54 (0, 0)) ∧ w.ownsRow N 5 1 v t.size (Lib.strCells t)
/-- The teller in a state. -/
def TlAt (N b : Nat) (W : Int) (st : Bk.St) (w : World) : Prop :=
  ∃ p v, (p = .pointer none ∨ p = .pointer (some ⟨b, 0, none⟩)) ∧ TlP p v N b W st.col st.bg st.out w
/-- Nothing below N is turned but the teller's block; no row of another kind than bytes, and tellers, is. -/
structure Stay (N b : Nat) (w w' : World) : Prop where
  below : Below b w w'
  block : ∀ i, i < N → i ≠ b → w'.heap[i]? = w.heap[i]?
  typed : ∀ (i : Nat) (cs : Array Value) (T : TypeId) (fr : Nat × Nat), w.heap[i]? = some (Obj.cells cs T fr) → T ≠ 5 → T ≠ 54 → w'.heap[i]? = w.heap[i]?
def Is54 (b : Nat) (w : World) : Prop := ∃ (cs : Array Value) (fr : Nat × Nat), w.heap[b]? = some (Obj.cells cs 54 fr)
theorem Is54.setCell {b : Nat} {w : World} (h : Is54 b w) (o : Nat) (u : Value) : Is54 b (w.setCell ⟨b, o, none⟩ u) := by
  obtain ⟨cs, fr, h⟩ := h
  exact ⟨cs.set! o u, fr, by simp [World.setCell, Array.getElem?_modify, h]⟩
theorem lt_of_cells {w : World} {i : Nat} {x : Obj} (h : w.heap[i]? = some x) : i < w.heap.size := by
  rcases Nat.lt_or_ge i w.heap.size with h' | h'
  · exact h'
  · simp [Array.getElem?_eq_none h'] at h
theorem Stay.refl (N b : Nat) (w : World) : Stay N b w w := ⟨Below.refl _ _, fun _ _ _ => rfl, fun _ _ _ _ _ _ _ => rfl⟩
theorem Stay.trans {N b : Nat} {w w1 w2 : World} (h : Stay N b w w1) (k : Stay N b w1 w2) : Stay N b w w2 :=
  ⟨h.below.trans k.below, fun i hi hn => (k.block i hi hn).trans (h.block i hi hn), fun i cs T fr e h5 h54 => (k.typed i cs T fr ((h.typed i cs T fr e h5 h54).trans e) h5 h54).trans (h.typed i cs T fr e h5 h54)⟩
theorem Stay.setCell {N b : Nat} {w : World} (h : Is54 b w) (o : Nat) (u : Value) : Stay N b w (w.setCell ⟨b, o, none⟩ u) :=
  ⟨(Below.refl b w).setCell (p := ⟨b, o, none⟩) (Nat.le_refl _) u, fun i _ hn => Below.heap_setCell _ _ _ _ hn, fun i cs T fr e h5 h54 => Below.heap_setCell _ _ _ _ (fun e2 => by
    obtain ⟨cs2, fr2, h⟩ := h
    have e2 : i = b := e2
    rw [e2, h] at e
    simp at e
    exact h54 e.2.1.symm)⟩
theorem Stay.of_below {N b : Nat} {w w' : World} (h : Below w.heap.size w w') (hb : b < N) (hN : N ≤ w.heap.size) : Stay N b w w' :=
  ⟨h.mono (by omega), fun i hi _ => h.block i (by omega), fun i cs T fr e _ _ => h.block i (lt_of_cells e)⟩
theorem Stay.grown {N b : Nat} {w w' : World} {v : Value} {n : Nat} {xs : List Value} (h : w.grownBy w' v.ownBlock) (ho : w.ownsRow N 5 1 v n xs) (hb : b < N) (hN : N ≤ w.heap.size) : Stay N b w w' :=
  ⟨(Below.refl b w).grown h (by omega) (fun k hk => by have := (World.ownsRow.lt ho k hk).1; omega), fun i hi _ => h.block i (by omega) (fun e => by have := (World.ownsRow.lt ho i e.symm).1; omega),
   fun i cs T fr e h5 _ => h.block i (lt_of_cells e) (fun e2 => by
    rcases ho.2 with ⟨hv, _⟩ | ⟨g, cap, cur, hv, _, hg, _⟩
    · rw [hv] at e2; simp [Value.ownBlock] at e2
    · rw [hv] at e2
      have e2 : i = g := by simpa [Value.ownBlock] using e2
      rw [e2, hg] at e
      simp at e
      exact h5 e.2.1.symm)⟩
theorem own_ne {w : World} {N b : Nat} {v : Value} {n : Nat} {xs : List Value} (h : w.ownsRow N 5 1 v n xs) (hb : b < N) : v.ownBlock ≠ some b := fun e => by
  have := (World.ownsRow.lt h b e).1; omega
/-- A cell of the teller's block is set. -/
theorem TlP.put {p v p' v' : Value} {N b : Nat} {W col col' : Int} {bg bg' : Bool} {t t' : ByteArray} {w : World} (h : TlP p v N b W col bg t w) (o : Nat) (u : Value)
    (hset : ([p, v, .int .i64 W, .int .i64 col, .bool bg] : List Value).set o u = [p', v', .int .i64 W, .int .i64 col', .bool bg']) (hown : w.ownsRow N 5 1 v' t'.size (Lib.strCells t')) :
    TlP p' v' N b W col' bg' t' (w.setCell ⟨b, o, none⟩ u) := by
  obtain ⟨hb, hN, hbk, _⟩ := h
  refine ⟨hb, by simp [World.setCell]; exact hN, ?_, ?_⟩
  · simp [World.setCell, Array.getElem?_modify, hbk, hset]
  · refine hown.kept (row := some b) ⟨rfl, rfl, rfl, by simp [World.setCell], fun k _ hk => Below.heap_setCell _ _ _ _ (fun e => hk (by simp [e]))⟩ (Or.inr (own_ne hown hb))
theorem TlP.below {p v : Value} {N b : Nat} {W col : Int} {bg : Bool} {t : ByteArray} {w w' : World} (h : TlP p v N b W col bg t w) (k : Below w.heap.size w w') : TlP p v N b W col bg t w' := by
  obtain ⟨hb, hN, hbk, hown⟩ := h
  exact ⟨hb, Nat.le_trans hN k.size, (k.block b (by omega)).trans hbk, owns_below' hown k⟩
where
  owns_below' {B : Nat} {e : TypeId} {size n : Nat} {v : Value} {xs : List Value} {w w' : World} (h : w.ownsRow B e size v n xs) (k : Below w.heap.size w w') : w'.ownsRow B e size v n xs := owns_below h k
theorem TlAt.below {N b : Nat} {W : Int} {st : Bk.St} {w w' : World} (h : TlAt N b W st w) (k : Below w.heap.size w w') : TlAt N b W st w' := by
  obtain ⟨p, v, hp, h⟩ := h; exact ⟨p, v, hp, h.below k⟩
set_option maxRecDepth 100000 in
set_option maxHeartbeats 1000000 in
theorem copy_any (p v : Value) (N b : Nat) (W col : Int) (bg : Bool) (t : ByteArray) (w : World) (hp : p = .pointer none ∨ p = .pointer (some ⟨b, 0, none⟩)) (h : TlP p v N b W col bg t w) :
    Calls Try.prog 38 #[.pointer (some ⟨b, 0, none⟩)] w fun e w' => e = .returned (.tuple #[]) ∧ TlP (.pointer (some ⟨b, 0, none⟩)) v N b W col bg t w' ∧ Stay N b w w' := by
  obtain ⟨j, hj, hjs⟩ := Option.map_eq_some_iff.1 Try.size52
  have HH := Lib.hid h
  obtain ⟨hb, hN, hbk, hown⟩ := h
  rcases hp with rfl | rfl
  · have h0 : w.cell? ⟨b, 0, none⟩ = some (.pointer none) := by rw [Lib.cell_of_heap hbk]; rfl
    have hfz : w.frozen? ⟨b, 0, none⟩ = false := Lib.frozen_of_heap hbk 0
    have hsh : w.shape? b = some (54, 5) := by simp [World.shape?, hbk]
    clear hown hbk
    go_enter Try.func38, Try.ntmps38
    go_wp2
    rw [Lib.run_to_unsafe w ⟨b, 0, none⟩ Try.underlying49 Try.underlying93 hj (by rw [hjs]; decide) hsh (Nat.zero_lt_succ 4)]
    simp only [Result.andThen]
    rw [Oper.upon_value]
    go_wp2
    rw [run_callFunc_extern Try.func43 (by kernel_rfl) (by kernel_rfl) (by kernel_rfl) (e := Extern.AbiNoEscape.same) (by kernel_rfl)]
    rw [Lib.run_noEscape]
    simp only [Result.andThen]
    rw [Oper.upon_value]
    go_wp2
    rw [Lib.run_from_unsafe w ⟨b, 0, none⟩ Try.underlying93 Try.underlying49 hj hsh Try.lies52]
    simp only [Result.andThen]
    rw [Oper.upon_value]
    go_wp2
    go_end0
    exact ⟨rfl, HH.out.put 0 _ (by rfl) HH.out.2.2.2, Stay.setCell ⟨_, _, HH.out.2.2.1⟩ _ _⟩
  · have h0 : w.cell? ⟨b, 0, none⟩ = some (.pointer (some ⟨b, 0, none⟩)) := by rw [Lib.cell_of_heap hbk]; rfl
    clear hown hbk
    go_enter Try.func38, Try.ntmps38
    go_wp2
    rw [Lib.run_neq_ptr_same w _ Try.underlying49 hj]
    go_wp2
    go_end0
    exact ⟨rfl, HH.out, Stay.refl _ _ _⟩
theorem strCells_app (a b : ByteArray) : Lib.strCells (a ++ b) = Lib.strCells a ++ Lib.strCells b := by
  simp [Lib.strCells, ByteArray.data_append]
set_option maxRecDepth 100000 in
set_option maxHeartbeats 2000000 in
theorem ws_tel (p v : Value) (N b : Nat) (W col : Int) (bg : Bool) (t s : ByteArray) (w : World) (hp : p = .pointer none ∨ p = .pointer (some ⟨b, 0, none⟩)) (h : TlP p v N b W col bg t w) (hz : t.size + s.size ≤ 1000000000) :
    Calls Try.prog 35 #[.pointer (some ⟨b, 0, none⟩), .string s] w fun e w' => e = .returned (.tuple #[.int .i64 s.size, .nilIface]) ∧ (∃ v', TlP (.pointer (some ⟨b, 0, none⟩)) v' N b W col bg (t ++ s) w') ∧ Stay N b w w' := by
  obtain ⟨i0, hi, hz0, hz1, hz2⟩ := info_parts Try.info5
  have HH := Lib.hid h
  have HP := Lib.hid hp
  clear h hp
  go_enter Try.func35, Try.ntmps35
  go_wp2_with (go_at_call 38; refine (copy_any p v N b W col bg t _ HP.out HH.out).mono ?_)
  rintro e w1 ⟨rfl, h1, hst1⟩
  have HH1 := Lib.hid h1
  have HST1 := Lib.hid hst1
  clear hst1
  obtain ⟨hb, hN, hbk, hown⟩ := h1
  have c0 : w1.cell? ⟨b, 0, none⟩ = some (.pointer (some ⟨b, 0, none⟩)) := by rw [Lib.cell_of_heap hbk]; rfl
  have c1 : w1.cell? ⟨b, 1, none⟩ = some v := by rw [Lib.cell_of_heap hbk]; rfl
  have HB := Lib.hid hbk
  clear hbk
  go_wp2_with (at_builtin; refine Lib.wpList_append_own_string _ rfl _ _ 50 9 rfl N 5 i0 Try.underlying50 Try.underlying9 hi hz0 hz1 hz2 _ _ _ rfl hown s rfl ?c3 ?c4 ?c5 ?_)
  case c3 => unfold maxLen; omega
  case c4 => omega
  case c5 => omega
  intro v' w2 hown' hgrow _
  have hlt : b < w1.heap.size := by omega
  have hb2 : w2.heap[b]? = some (.cells #[.pointer (some ⟨b, 0, none⟩), v, .int .i64 W, .int .i64 col, .bool bg] 54 (0, 0)) := by
    rw [hgrow.block b hlt (fun e => own_ne hown hb e.symm)]
    exact HB.out
  have HIS : Hid (Is54 b w2) := Lib.hid ⟨_, _, hb2⟩
  have d0 : w2.cell? ⟨b, 0, none⟩ = some (.pointer (some ⟨b, 0, none⟩)) := by rw [Lib.cell_of_heap hb2]; rfl
  have d1 : w2.cell? ⟨b, 1, none⟩ = some v := by rw [Lib.cell_of_heap hb2]; rfl
  have f1 : w2.frozen? ⟨b, 1, none⟩ = false := Lib.frozen_of_heap hb2 1
  have hs2 : N ≤ w2.heap.size := Nat.le_trans hN hgrow.size
  have hst2 : Stay N b w1 w2 := Stay.grown hgrow hown hb hN
  have HST2 := Lib.hid (HST1.out.trans hst2)
  have htl : TlP (.pointer (some ⟨b, 0, none⟩)) v N b W col bg t w2 → TlP (.pointer (some ⟨b, 0, none⟩)) v' N b W col bg (t ++ s) (w2.setCell ⟨b, 1, none⟩ v') := fun h => h.put 1 v' rfl (by rw [Bk.size_app, strCells_app]; exact hown')
  have HTL : Hid (TlP (.pointer (some ⟨b, 0, none⟩)) v' N b W col bg (t ++ s) (w2.setCell ⟨b, 1, none⟩ v')) := Lib.hid (by
    refine ⟨hb, by simp [World.setCell]; exact hs2, ?_, ?_⟩
    · simp [World.setCell, Array.getElem?_modify, hb2]
    · have ho : w2.ownsRow N 5 1 v' (t ++ s).size (Lib.strCells (t ++ s)) := by rw [Bk.size_app, strCells_app]; exact hown'
      exact ho.kept (row := some b) ⟨rfl, rfl, rfl, by simp [World.setCell], fun k _ hk => Below.heap_setCell _ _ _ _ (fun e => hk (by simp [e]))⟩ (Or.inr (own_ne ho hb)))
  obtain ⟨ao, n', cap, rfl⟩ : ∃ ao n' cap, v' = .slice ao n' cap := by
    rcases hown'.2 with ⟨hv, _⟩ | ⟨g, cap, cur, hv, _⟩
    · exact ⟨_, _, _, hv⟩
    · exact ⟨_, _, _, hv⟩
  clear hown' hgrow hb2 hst2 htl hown
  go_wp2
  go_ret2
  exact ⟨rfl, ⟨_, HTL.out⟩, HST2.out.trans (Stay.setCell HIS.out _ _)⟩
set_option maxRecDepth 100000 in
set_option maxHeartbeats 2000000 in
theorem wb_tel (p v : Value) (N b : Nat) (W col : Int) (bg : Bool) (t : ByteArray) (c : UInt8) (w : World) (hp : p = .pointer none ∨ p = .pointer (some ⟨b, 0, none⟩)) (h : TlP p v N b W col bg t w) (hz : t.size ≤ 1000000000) :
    Calls Try.prog 37 #[.pointer (some ⟨b, 0, none⟩), .int .u8 c.toNat] w fun e w' => e = .returned .nilIface ∧ (∃ v', TlP (.pointer (some ⟨b, 0, none⟩)) v' N b W col bg (t ++ ⟨#[c]⟩) w') ∧ Stay N b w w' := by
  obtain ⟨i0, hi, hz0, hz1, hz2⟩ := info_parts Try.info5
  have HH := Lib.hid h
  have HP := Lib.hid hp
  clear h hp
  obtain ⟨cc, hcc⟩ : ∃ cc : Int, cc = (c.toNat : Int) := ⟨_, rfl⟩
  rw [← hcc]
  have HC := Lib.hid hcc
  clear hcc
  go_enter Try.func37, Try.ntmps37
  go_wp2_with (go_at_call 38; refine (copy_any p v N b W col bg t _ HP.out HH.out).mono ?_)
  rintro e w1 ⟨rfl, h1, hst1⟩
  have HST1 := Lib.hid hst1
  clear hst1
  obtain ⟨hb, hN, hbk, hown⟩ := h1
  have c0 : w1.cell? ⟨b, 0, none⟩ = some (.pointer (some ⟨b, 0, none⟩)) := by rw [Lib.cell_of_heap hbk]; rfl
  have c1 : w1.cell? ⟨b, 1, none⟩ = some v := by rw [Lib.cell_of_heap hbk]; rfl
  have HB := Lib.hid hbk
  clear hbk
  go_wp2_with (at_builtin; refine wpList_append_own _ rfl _ _ 50 rfl N 5 i0 (.int .u8 0) 1 1 Try.underlying50 hi hz0 hz1 hz2 rfl (by decide) _ _ _ rfl (hown.alloc _) ⟨w1.heap.size, 0, none⟩ 1 1 [.int .u8 cc] rfl rfl ?c1 ?c2 ?c3 ?c4 ?c5 ?_)
  case c1 =>
    intro j u hj
    match j, hj with
    | 0, hj => simp at hj; subst hj; simp [Addr.add]
  case c2 => intro u hu; simp at hu; subst hu; rfl
  case c3 => unfold maxLen; omega
  case c4 => omega
  case c5 => simp; omega
  intro v' w2 hown' hgrow _
  have hlt : b < w1.heap.size := by omega
  have hb2 : w2.heap[b]? = some (.cells #[.pointer (some ⟨b, 0, none⟩), v, .int .i64 W, .int .i64 col, .bool bg] 54 (0, 0)) := by
    rw [hgrow.block b (by simp; omega) (fun e => own_ne hown hb e.symm), Lib.alloc_old w1 _ b hlt]
    exact HB.out
  have HIS : Hid (Is54 b w2) := Lib.hid ⟨_, _, hb2⟩
  have d0 : w2.cell? ⟨b, 0, none⟩ = some (.pointer (some ⟨b, 0, none⟩)) := by rw [Lib.cell_of_heap hb2]; rfl
  have d1 : w2.cell? ⟨b, 1, none⟩ = some v := by rw [Lib.cell_of_heap hb2]; rfl
  have f1 : w2.frozen? ⟨b, 1, none⟩ = false := Lib.frozen_of_heap hb2 1
  have hs1 : (w1.alloc (.cells #[.int .u8 cc] 5)).heap.size = w1.heap.size + 1 := by simp
  have hs2 : N ≤ w2.heap.size := by have := hgrow.size; omega
  have hst2 : Stay N b (w1.alloc (.cells #[.int .u8 cc] 5)) w2 := Stay.grown hgrow (hown.alloc _) hb (by omega)
  have HST2 := Lib.hid ((HST1.out.trans (Stay.of_below ((Below.refl _ _).alloc (Nat.le_refl _) _) hb hN)).trans hst2)
  have HTL : Hid (TlP (.pointer (some ⟨b, 0, none⟩)) v' N b W col bg (t ++ ⟨#[c]⟩) (w2.setCell ⟨b, 1, none⟩ v')) := Lib.hid (by
    refine ⟨hb, by simp [World.setCell]; exact hs2, ?_, ?_⟩
    · simp [World.setCell, Array.getElem?_modify, hb2]
    · have ho : w2.ownsRow N 5 1 v' (t ++ ⟨#[c]⟩).size (Lib.strCells (t ++ ⟨#[c]⟩)) := by
        rw [Bk.size_app, strCells_app]
        have : Lib.strCells ⟨#[c]⟩ = [.int .u8 cc] := by rw [HC.out]; rfl
        rw [this]; exact hown'
      exact ho.kept (row := some b) ⟨rfl, rfl, rfl, by simp [World.setCell], fun k _ hk => Below.heap_setCell _ _ _ _ (fun e => hk (by simp [e]))⟩ (Or.inr (own_ne ho hb)))
  obtain ⟨ao, n', cap, rfl⟩ : ∃ ao n' cap, v' = .slice ao n' cap := by
    rcases hown'.2 with ⟨hv, _⟩ | ⟨g, cap, cur, hv, _⟩
    · exact ⟨_, _, _, hv⟩
    · exact ⟨_, _, _, hv⟩
  clear hown' hgrow hb2 hst2 hown
  go_wp2
  go_ret
  exact ⟨rfl, ⟨_, HTL.out⟩, HST2.out.trans (Stay.setCell HIS.out _ _)⟩
end Go.Proofs.Ythkpoiideiimaaa
