/- The reference's teller: its block, feed, a text: contracts. -/
import Derived.Test.YthkpoiideiimaaaRef2
import Derived.Test.YthkpoiideiimaaaTel7
namespace Go.Proofs.Ythkpoiideiimaaa
open Go Go.RowKit Go.PlainAid
set_option linter.unusedVariables false
open Bk (Fo)
/-- The reference's teller's block. -/
def RtP (v : Value) (N b : Nat) (W col : Int) (bg : Bool) (t : ByteArray) (w : World) : Prop :=
  b < N ∧ N ≤ w.heap.size ∧ w.heap[b]? = some (.cells #[v, .int .i64 col, .bool (!bg), .int .i64 W] 59 (0, 0)) ∧ w.ownsRow N 5 1 v t.size (Lib.strCells t)
def RtAt (N b : Nat) (W : Int) (st : Bk.St) (w : World) : Prop := ∃ v, RtP v N b W st.col st.bg st.out w
structure RStay (N b : Nat) (w w' : World) : Prop where
  below : Below b w w'
  block : ∀ i, i < N → i ≠ b → w'.heap[i]? = w.heap[i]?
  typed : ∀ (i : Nat) (cs : Array Value) (T : TypeId) (fr : Nat × Nat), w.heap[i]? = some (Obj.cells cs T fr) → T ≠ 5 → T ≠ 59 → w'.heap[i]? = w.heap[i]?
def Is59 (b : Nat) (w : World) : Prop := ∃ (cs : Array Value) (fr : Nat × Nat), w.heap[b]? = some (Obj.cells cs 59 fr)
theorem Is59.setCell {b : Nat} {w : World} (h : Is59 b w) (o : Nat) (u : Value) : Is59 b (w.setCell ⟨b, o, none⟩ u) := by
  obtain ⟨cs, fr, h⟩ := h
  exact ⟨cs.set! o u, fr, by simp [World.setCell, Array.getElem?_modify, h]⟩
theorem RStay.refl (N b : Nat) (w : World) : RStay N b w w := ⟨Below.refl _ _, fun _ _ _ => rfl, fun _ _ _ _ _ _ _ => rfl⟩
theorem RStay.trans {N b : Nat} {w w1 w2 : World} (h : RStay N b w w1) (k : RStay N b w1 w2) : RStay N b w w2 :=
  ⟨h.below.trans k.below, fun i hi hn => (k.block i hi hn).trans (h.block i hi hn), fun i cs T fr e h5 h59 => (k.typed i cs T fr ((h.typed i cs T fr e h5 h59).trans e) h5 h59).trans (h.typed i cs T fr e h5 h59)⟩
theorem RStay.setCell {N b : Nat} {w : World} (h : Is59 b w) (o : Nat) (u : Value) : RStay N b w (w.setCell ⟨b, o, none⟩ u) :=
  ⟨(Below.refl b w).setCell (p := ⟨b, o, none⟩) (Nat.le_refl _) u, fun i _ hn => Below.heap_setCell _ _ _ _ hn, fun i cs T fr e h5 h59 => Below.heap_setCell _ _ _ _ (fun e2 => by
    obtain ⟨cs2, fr2, h⟩ := h
    have e2 : i = b := e2
    rw [e2, h] at e
    simp at e
    exact h59 e.2.1.symm)⟩
theorem RStay.of_below {N b : Nat} {w w' : World} (h : Below w.heap.size w w') (hb : b < N) (hN : N ≤ w.heap.size) : RStay N b w w' :=
  ⟨h.mono (by omega), fun i hi _ => h.block i (by omega), fun i cs T fr e _ _ => h.block i (lt_of_cells e)⟩
theorem RStay.grown {N b : Nat} {w w' : World} {v : Value} {n : Nat} {xs : List Value} (h : w.grownBy w' v.ownBlock) (ho : w.ownsRow N 5 1 v n xs) (hb : b < N) (hN : N ≤ w.heap.size) : RStay N b w w' :=
  ⟨(Below.refl b w).grown h (by omega) (fun k hk => by have := (World.ownsRow.lt ho k hk).1; omega), fun i hi _ => h.block i (by omega) (fun e => by have := (World.ownsRow.lt ho i e.symm).1; omega),
   fun i cs T fr e h5 _ => h.block i (lt_of_cells e) (fun e2 => by
    rcases ho.2 with ⟨hv, _⟩ | ⟨g, cap, cur, hv, _, hg, _⟩
    · rw [hv] at e2; simp [Value.ownBlock] at e2
    · rw [hv] at e2
      have e2 : i = g := by simpa [Value.ownBlock] using e2
      rw [e2, hg] at e
      simp at e
      exact h5 e.2.1.symm)⟩
theorem RtP.put {v v' : Value} {N b : Nat} {W col col' : Int} {bg bg' : Bool} {t t' : ByteArray} {w : World} (h : RtP v N b W col bg t w) (o : Nat) (u : Value)
    (hset : ([v, .int .i64 col, .bool (!bg), .int .i64 W] : List Value).set o u = [v', .int .i64 col', .bool (!bg'), .int .i64 W]) (hown : w.ownsRow N 5 1 v' t'.size (Lib.strCells t')) :
    RtP v' N b W col' bg' t' (w.setCell ⟨b, o, none⟩ u) := by
  obtain ⟨hb, hN, hbk, _⟩ := h
  refine ⟨hb, by simp [World.setCell]; exact hN, ?_, ?_⟩
  · simp [World.setCell, Array.getElem?_modify, hbk, hset]
  · refine hown.kept (row := some b) ⟨rfl, rfl, rfl, by simp [World.setCell], fun k _ hk => Below.heap_setCell _ _ _ _ (fun e => hk (by simp [e]))⟩ (Or.inr (own_ne hown hb))
theorem RtAt.below {N b : Nat} {W : Int} {st : Bk.St} {w w' : World} (h : RtAt N b W st w) (k : Below w.heap.size w w') : RtAt N b W st w' := by
  obtain ⟨v, hb, hN, hbk, hown⟩ := h
  exact ⟨v, hb, Nat.le_trans hN k.size, (k.block b (by omega)).trans hbk, owns_below hown k⟩
theorem RtAt.cells {N b : Nat} {W col : Int} {bg : Bool} {t : ByteArray} {w : World} (h : RtAt N b W ⟨t, col, bg⟩ w) :
    w.cell? ⟨b, 1, none⟩ = some (.int .i64 col) ∧ w.cell? ⟨b, 2, none⟩ = some (.bool (!bg)) ∧ w.cell? ⟨b, 3, none⟩ = some (.int .i64 W) ∧ w.frozen? ⟨b, 0, none⟩ = false ∧ w.frozen? ⟨b, 1, none⟩ = false ∧ w.frozen? ⟨b, 2, none⟩ = false := by
  obtain ⟨v, hb, hN, hbk, hown⟩ := h
  exact ⟨by rw [Lib.cell_of_heap hbk]; rfl, by rw [Lib.cell_of_heap hbk]; rfl, by rw [Lib.cell_of_heap hbk]; rfl, Lib.frozen_of_heap hbk 0, Lib.frozen_of_heap hbk 1, Lib.frozen_of_heap hbk 2⟩
theorem RtAt.col {N b : Nat} {W col : Int} {bg : Bool} {t : ByteArray} {w : World} (h : RtAt N b W ⟨t, col, bg⟩ w) (c : Int) : RtAt N b W ⟨t, c, bg⟩ (w.setCell ⟨b, 1, none⟩ (.int .i64 c)) := by
  obtain ⟨v, h⟩ := h
  exact ⟨v, h.put 1 _ rfl h.2.2.2⟩
theorem RtAt.beg {N b : Nat} {W col : Int} {bg : Bool} {t : ByteArray} {w : World} (h : RtAt N b W ⟨t, col, bg⟩ w) (c : Bool) : RtAt N b W ⟨t, col, !c⟩ (w.setCell ⟨b, 2, none⟩ (.bool c)) := by
  obtain ⟨v, h⟩ := h
  exact ⟨v, h.put 2 _ (by show [v, _, .bool c, _] = _; cases c <;> rfl) h.2.2.2⟩
theorem RtAt.lt {N b : Nat} {W : Int} {st : Bk.St} {w : World} (h : RtAt N b W st w) : b < N ∧ N ≤ w.heap.size := by
  obtain ⟨v, h⟩ := h
  exact ⟨h.1, h.2.1⟩
theorem RtAt.is59 {N b : Nat} {W : Int} {st : Bk.St} {w : World} (h : RtAt N b W st w) : Is59 b w := by
  obtain ⟨v, h⟩ := h
  exact ⟨_, _, h.2.2.1⟩
def RtPost (N b : Nat) (W : Int) (st : Bk.St) (w : World) (e : Ending) (w' : World) : Prop := e = .returned (.tuple #[]) ∧ RtAt N b W st w' ∧ RStay N b w w'
/-- The cells of the teller's block. -/
def RCells (b : Nat) (v : Value) (W col : Int) (bg : Bool) (w : World) : Prop :=
  w.cell? ⟨b, 0, none⟩ = some v ∧ w.cell? ⟨b, 1, none⟩ = some (.int .i64 col) ∧ w.cell? ⟨b, 2, none⟩ = some (.bool (!bg)) ∧ w.cell? ⟨b, 3, none⟩ = some (.int .i64 W) ∧ w.frozen? ⟨b, 0, none⟩ = false ∧ w.frozen? ⟨b, 1, none⟩ = false ∧ w.frozen? ⟨b, 2, none⟩ = false
theorem rcells_of {b : Nat} {v : Value} {W col : Int} {bg : Bool} {w : World} (hbk : w.heap[b]? = some (.cells #[v, .int .i64 col, .bool (!bg), .int .i64 W] 59 (0, 0))) : RCells b v W col bg w :=
  ⟨by rw [Lib.cell_of_heap hbk]; rfl, by rw [Lib.cell_of_heap hbk]; rfl, by rw [Lib.cell_of_heap hbk]; rfl, by rw [Lib.cell_of_heap hbk]; rfl, Lib.frozen_of_heap hbk 0, Lib.frozen_of_heap hbk 1, Lib.frozen_of_heap hbk 2⟩
theorem RtAt.rcells {N b : Nat} {W col : Int} {bg : Bool} {t : ByteArray} {w : World} (h : RtAt N b W ⟨t, col, bg⟩ w) : ∃ v, RCells b v W col bg w ∧ Hid (RtP v N b W col bg t w) := by
  obtain ⟨v, h⟩ := h
  exact ⟨v, rcells_of h.2.2.1, Lib.hid h⟩
/-- One byte is appended. -/
theorem app_rb {ops : Array Oper} {rest : List Oper} {o : Oper} {a : Act} {Q : Exit → Act → World → Prop} {N b : Nat} {W col : Int} {bg : Bool} {t : ByteArray} {wr wx : World} (hgd : o.guard = none) (s x : Operand)
    (ho : o.op = .call { callee := .builtin .append, args := #[s, x], argTypes := #[50, 50] }) (v : Value) (c : UInt8) (cc : Int) (hs : a.eval s = v)
    (hx : a.eval x = .slice (some ⟨wr.heap.size, 0, none⟩) 1 1) (hT : Hid (RtP v N b W col bg t wr)) (hcc : cc = (c.toNat : Int)) (hlen : t.size ≤ 1000000000) (hwx : wx = wr.alloc (.cells #[.int .u8 cc] 5))
    (h : ∀ ao nn cp w', RCells b v W col bg w' → Hid (RtAt N b W ⟨t ++ ⟨#[c]⟩, col, bg⟩ (w'.setCell ⟨b, 0, none⟩ (.slice ao nn cp))) → Hid (RStay N b wr w' ∧ Is59 b w') → wpList Try.prog ops Q rest (a.put o.dst (.slice ao nn cp)) w') :
    wpList Try.prog ops Q (o :: rest) a wx := by
  subst hwx
  obtain ⟨i0, hi, hz0, hz1, hz2⟩ := info_parts Try.info5
  obtain ⟨hb, hN, hbk, hown⟩ := hT.out
  refine wpList_append_lies _ hgd s x 50 ho N 5 i0 _ 1 1 Try.underlying50 hi hz0 hz1 hz2 rfl (by decide) v _ _ hs (hown.alloc _) ⟨wr.heap.size, 0, none⟩ 1 1 [.int .u8 cc] hx rfl ?_ ?_ (by decide) ?_ ?_ ?_ (wr.heap.size + 1) (by simp) ?_
  · exact fun j u hu => World.news_of_block (heap_alloc_new wr (.cells #[.int .u8 cc] 5)) j u (by simpa using hu)
  · simp [Value.oneCell']
  · unfold maxLen; omega
  · omega
  · simp; omega
  intro g cap w2 hown' hgrow _ _
  have hlt : b < wr.heap.size := by omega
  have hb2 : w2.heap[b]? = some (.cells #[v, .int .i64 col, .bool (!bg), .int .i64 W] 59 (0, 0)) := by
    rw [hgrow.block b (by simp; omega) (fun e => own_ne hown hb e.symm), Lib.alloc_old wr _ b hlt]
    exact hbk
  have hs1 : (wr.alloc (.cells #[.int .u8 cc] 5)).heap.size = wr.heap.size + 1 := by simp
  have hs2 : N ≤ w2.heap.size := by have := hgrow.size; omega
  have hst2 : RStay N b (wr.alloc (.cells #[.int .u8 cc] 5)) w2 := RStay.grown hgrow (hown.alloc _) hb (by omega)
  refine h _ _ _ w2 (rcells_of hb2) (Lib.hid ⟨.slice (some ⟨g, 0, none⟩) (t.size + 1) cap, hb, by simp [World.setCell]; exact hs2, ?_, ?_⟩) (Lib.hid ⟨(RStay.of_below ((Below.refl _ _).alloc (Nat.le_refl _) _) hb hN).trans hst2, _, _, hb2⟩)
  · simp [World.setCell, Array.getElem?_modify, hb2]
  · have ho : w2.ownsRow N 5 1 (.slice (some ⟨g, 0, none⟩) (t.size + 1) cap) (t ++ ⟨#[c]⟩).size (Lib.strCells (t ++ ⟨#[c]⟩)) := by
      rw [Bk.size_app, strCells_app]
      have : Lib.strCells ⟨#[c]⟩ = [.int .u8 cc] := by rw [hcc]; rfl
      rw [this]; exact hown'
    exact ho.kept (row := some b) ⟨rfl, rfl, rfl, by simp [World.setCell], fun k _ hk => Below.heap_setCell _ _ _ _ (fun e => hk (by simp [e]))⟩ (Or.inr (own_ne ho hb))
/-- A text is appended. -/
theorem app_rs {ops : Array Oper} {rest : List Oper} {o : Oper} {a : Act} {Q : Exit → Act → World → Prop} {N b : Nat} {W col : Int} {bg : Bool} {t : ByteArray} {wr : World} (hgd : o.guard = none) (x y : Operand)
    (ho : o.op = .call { callee := .builtin .append, args := #[x, y], argTypes := #[50, 9] }) (v : Value) (s : ByteArray) (hs : a.eval x = v)
    (hx : a.eval y = .string s) (hT : Hid (RtP v N b W col bg t wr)) (hlen : t.size + s.size ≤ 1000000000)
    (h : ∀ ao nn cp w', RCells b v W col bg w' → Hid (RtAt N b W ⟨t ++ s, col, bg⟩ (w'.setCell ⟨b, 0, none⟩ (.slice ao nn cp))) → Hid (RStay N b wr w' ∧ Is59 b w') → wpList Try.prog ops Q rest (a.put o.dst (.slice ao nn cp)) w') :
    wpList Try.prog ops Q (o :: rest) a wr := by
  obtain ⟨i0, hi, hz0, hz1, hz2⟩ := info_parts Try.info5
  obtain ⟨hb, hN, hbk, hown⟩ := hT.out
  refine Lib.wpList_append_own_string _ hgd x y 50 9 ho N 5 i0 Try.underlying50 Try.underlying9 hi hz0 hz1 hz2 v _ _ hs hown s hx ?_ ?_ ?_ ?_
  · unfold maxLen; omega
  · omega
  · omega
  intro v' w2 hown' hgrow _
  have hlt : b < wr.heap.size := by omega
  have hb2 : w2.heap[b]? = some (.cells #[v, .int .i64 col, .bool (!bg), .int .i64 W] 59 (0, 0)) := by
    rw [hgrow.block b hlt (fun e => own_ne hown hb e.symm)]
    exact hbk
  have hs2 : N ≤ w2.heap.size := Nat.le_trans hN hgrow.size
  have hst2 : RStay N b wr w2 := RStay.grown hgrow hown hb hN
  obtain ⟨ao, n', cap, rfl⟩ : ∃ ao n' cap, v' = .slice ao n' cap := by
    rcases hown'.2 with ⟨hv, _⟩ | ⟨g, cap, cur, hv, _⟩
    · exact ⟨_, _, _, hv⟩
    · exact ⟨_, _, _, hv⟩
  refine h ao n' cap w2 (rcells_of hb2) (Lib.hid ⟨.slice ao n' cap, hb, by simp [World.setCell]; exact hs2, ?_, ?_⟩) (Lib.hid ⟨hst2, _, _, hb2⟩)
  · simp [World.setCell, Array.getElem?_modify, hb2]
  · have ho : w2.ownsRow N 5 1 (.slice ao n' cap) (t ++ s).size (Lib.strCells (t ++ s)) := by rw [Bk.size_app, strCells_app]; exact hown'
    exact ho.kept (row := some b) ⟨rfl, rfl, rfl, by simp [World.setCell], fun k _ hk => Below.heap_setCell _ _ _ _ (fun e => hk (by simp [e]))⟩ (Or.inr (own_ne ho hb))
/-- A text is appended, as one step of a region that draws. -/
theorem step_rs {ops : Array Oper} {o : Oper} {a : Act} {K : Act → World → Prop} {Q : Exit → Act → World → Prop} {E : Prop} {N b : Nat} {W col : Int} {bg : Bool} {t : ByteArray} {wr wx : World} (hgd : o.guard = none) (x y : Operand)
    (ho : o.op = .call { callee := .builtin .append, args := #[x, y], argTypes := #[50, 9] }) (v : Value) (s : ByteArray) (hs : a.eval x = v)
    (hx : a.eval y = .string s) (hT : Hid (RtP v N b W col bg t wr)) (hlen : t.size + s.size ≤ 1000000000) (hbx : Below wr.heap.size wr wx)
    (h : ∀ ao nn cp w', RCells b v W col bg w' → Hid (RtAt N b W ⟨t ++ s, col, bg⟩ (w'.setCell ⟨b, 0, none⟩ (.slice ao nn cp))) → Hid (RStay N b wr w' ∧ Is59 b w') → K (a.put o.dst (.slice ao nn cp)) w') :
    if Region.wanted o (yielded ops a.tmps) = true then Oper.wp Try.prog o a wx K Q else E := by
  have hw : Region.wanted o (yielded ops a.tmps) = true := by simp [Region.wanted, hgd]
  rw [if_pos hw]
  obtain ⟨i0, hi, hz0, hz1, hz2⟩ := info_parts Try.info5
  obtain ⟨hb, hN, hbk, hown⟩ := hT.out
  have hsz := hbx.size
  have hbkx : wx.heap[b]? = _ := (hbx.block b (by omega)).trans hbk
  have hownx := owns_below hown hbx
  obtain ⟨v', w2, hr, hown', hgrow, _⟩ := Lib.run_append_own_string (P := Try.prog) wx N 50 9 o.type 5 i0 Try.underlying50 Try.underlying9 hi hz0 hz1 hz2 v _ _ hownx s (by unfold maxLen; omega) (by omega) (by omega)
  unfold Oper.wp execOp
  simp only [ho, resolve, invoke, builtin, Sem.run_bind, Sem.run_pure, Result.andThen_ok, List.map_toArray, List.map_cons, List.map_nil, hs, hx, hr]
  have hlt : b < wx.heap.size := by omega
  have hb2 : w2.heap[b]? = some (.cells #[v, .int .i64 col, .bool (!bg), .int .i64 W] 59 (0, 0)) := by
    rw [hgrow.block b hlt (fun e => own_ne hownx hb e.symm)]
    exact hbkx
  have hs2 : N ≤ w2.heap.size := by have := hgrow.size; omega
  have hst2 : RStay N b wx w2 := RStay.grown hgrow hownx hb (by omega)
  obtain ⟨ao, n', cap, rfl⟩ : ∃ ao n' cap, v' = .slice ao n' cap := by
    rcases hown'.2 with ⟨hv, _⟩ | ⟨g, cap, cur, hv, _⟩
    · exact ⟨_, _, _, hv⟩
    · exact ⟨_, _, _, hv⟩
  refine h ao n' cap w2 (rcells_of hb2) (Lib.hid ⟨.slice ao n' cap, hb, by simp [World.setCell]; exact hs2, ?_, ?_⟩) (Lib.hid ⟨(RStay.of_below hbx hb hN).trans hst2, _, _, hb2⟩)
  · simp [World.setCell, Array.getElem?_modify, hb2]
  · have ho : w2.ownsRow N 5 1 (.slice ao n' cap) (t ++ s).size (Lib.strCells (t ++ s)) := by rw [Bk.size_app, strCells_app]; exact hown'
    exact ho.kept (row := some b) ⟨rfl, rfl, rfl, by simp [World.setCell], fun k _ hk => Below.heap_setCell _ _ _ _ (fun e => hk (by simp [e]))⟩ (Or.inr (own_ne ho hb))
set_option maxRecDepth 100000 in
set_option maxHeartbeats 2000000 in
theorem rfeed_any (N b : Nat) (W col : Int) (bg : Bool) (out : ByteArray) (w : World) (h : RtAt N b W ⟨out, col, bg⟩ w) (hz : out.size ≤ 1000000000) :
    Calls Try.prog 33 #[.pointer (some ⟨b, 0, none⟩)] w (RtPost N b W ⟨out ++ ⟨#[10]⟩, 0, false⟩ w) := by
  obtain ⟨v, ⟨c0, c1, c2, c3, f0, f1, f2⟩, HH⟩ := h.rcells
  clear h
  go_enter Try.func33, Try.ntmps33
  go_wp2_with (at_builtin; refine app_rb rfl _ _ rfl v 10 10 rfl rfl HH rfl hz (by rfl) ?_; rintro ao nn cp w1 ⟨d0, d1, d2, d3, g0, g1, g2⟩ H1 HST)
  go_end0
  have HI : Is59 b (w1.setCell ⟨b, 0, none⟩ (.slice ao nn cp)) := HST.out.2.setCell _ _
  exact ⟨rfl, (H1.out.col 0).beg true, ((HST.out.1.trans (RStay.setCell HST.out.2 _ _)).trans (RStay.setCell HI _ _)).trans (RStay.setCell (HI.setCell _ _) _ _)⟩
end Go.Proofs.Ythkpoiideiimaaa
