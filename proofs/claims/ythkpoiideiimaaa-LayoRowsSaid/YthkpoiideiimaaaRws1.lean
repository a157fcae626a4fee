/- The law LayoRows of chapter 25: its walk. -/
import Derived.Test.YthkpoiideiimaaaWds0
namespace Go.Proofs.Ythkpoiideiimaaa
open Go Go.RowKit Go.PlainAid
set_option linter.unusedVariables false
open Bk (Fo)
theorem LList.app {w : World} {ok : Nat → Prop} : ∀ {F G : Fo} {vs us : List Value}, LList w ok F vs → LList w ok G us → LList w ok (F.app G) (vs ++ us)
  | .nil, G, vs, us, h, hg => by rw [show vs = [] from h]; exact hg
  | .cons kd t n kids rest, G, vs, us, ⟨a, cp, xs, h1, h2, h3⟩, hg => by rw [h1]; exact ⟨a, cp, xs ++ us, rfl, h2, LList.app h3 hg⟩
/-- Layouts so far, in a row of the call's own behind block lb, that the layout in block lb has. -/
structure RM (w0 : World) (lb : Nat) (v : Value) (P : Fo) (vs : List Value) (w : World) : Prop where
  own : w.ownsRow (lb + 1) 26 4 v P.len vs
  list : LList w (fun i => lb < i ∧ some i ≠ v.ownBlock) P vs
  blk : w.heap[lb]? = some (.cells #[.int .i64 5, .string ⟨#[]⟩, .int .i64 0, v] 26 (0, 0))
  hlb : w0.heap.size ≤ lb
  below : Below w0.heap.size w0 w
theorem RM.lt {w0 : World} {lb : Nat} {v : Value} {P : Fo} {vs : List Value} {w : World} (h : RM w0 lb v P vs w) : lb < w.heap.size := blk_lt h.blk
theorem RM.call {w0 : World} {lb : Nat} {v : Value} {P : Fo} {vs : List Value} {w w2 : World} (h : RM w0 lb v P vs w) (hb : Below w.heap.size w w2) : RM w0 lb v P vs w2 :=
  ⟨owns_below h.own hb, h.list.agree (agree_below hb), (hb.block lb h.lt).trans h.blk, h.hlb, h.below.trans (hb.mono h.below.size)⟩
theorem RM.own_lt {w0 : World} {lb : Nat} {v : Value} {P : Fo} {vs : List Value} {w : World} (h : RM w0 lb v P vs w) : ∀ i, v.ownBlock = some i → lb + 1 ≤ i ∧ i < w.heap.size := World.ownsRow.lt h.own
theorem RM.cells {w0 : World} {lb : Nat} {v : Value} {P : Fo} {vs : List Value} {w : World} (h : RM w0 lb v P vs w) :
    w.cell? ⟨lb, 0, none⟩ = some (.int .i64 5) ∧ w.cell? ⟨lb, 1, none⟩ = some (.string ⟨#[]⟩) ∧ w.cell? ⟨lb, 2, none⟩ = some (.int .i64 0) ∧ w.cell? ⟨lb, 3, none⟩ = some v ∧ w.frozen? ⟨lb, 3, none⟩ = false := by
  have hb := h.blk
  exact ⟨by rw [Lib.cell_of_heap hb]; rfl, by rw [Lib.cell_of_heap hb]; rfl, by rw [Lib.cell_of_heap hb]; rfl, by rw [Lib.cell_of_heap hb]; rfl, Lib.frozen_of_heap hb 3⟩
theorem RM.grown {w0 : World} {lb : Nat} {v : Value} {P : Fo} {vs : List Value} {w w4 : World} (h : RM w0 lb v P vs w) (hg : w.grownBy w4 v.ownBlock) :
    w4.cell? ⟨lb, 3, none⟩ = some v ∧ w4.frozen? ⟨lb, 3, none⟩ = false := by
  have e : w4.heap[lb]? = some (.cells #[.int .i64 5, .string ⟨#[]⟩, .int .i64 0, v] 26 (0, 0)) := (hg.block lb h.lt (fun e => by have := (h.own_lt lb e.symm).1; omega)).trans h.blk
  exact ⟨by rw [Lib.cell_of_heap e]; rfl, Lib.frozen_of_heap e 3⟩
theorem RM.app {w0 : World} {lb : Nat} {v : Value} {P : Fo} {vs : List Value} {w w4 : World} (h : RM w0 lb v P vs w) {G : Fo} {news : List Value} (hk : LList w (fun i => lb < i ∧ some i ≠ v.ownBlock) G news) {g c : Nat}
    (hown : w4.ownsRow (lb + 1) 26 4 (.slice (some ⟨g, 0, none⟩) (P.len + G.len) c) (P.len + G.len) (vs ++ news)) (hg : w.grownBy w4 v.ownBlock) (hat : v.ownBlock = some g ∨ g = w.heap.size) :
    RM w0 lb (.slice (some ⟨g, 0, none⟩) (P.len + G.len) c) (P.app G) (vs ++ news) (w4.setCell ⟨lb, 3, none⟩ (.slice (some ⟨g, 0, none⟩) (P.len + G.len) c)) := by
  have hl := h.lt
  have ho := h.own_lt
  obtain ⟨h1, h2, h3, h4, h5⟩ := h
  have h34 : ∀ i, i < w.heap.size → v.ownBlock ≠ some i → w4.heap[i]? = w.heap[i]? := fun i hi hn => hg.block i hi (fun e => hn e.symm)
  have hset : ∀ i, i ≠ lb → (w4.setCell ⟨lb, 3, none⟩ (.slice (some ⟨g, 0, none⟩) (P.len + G.len) c)).heap[i]? = w4.heap[i]? := fun i hi => Below.heap_setCell _ _ _ _ hi
  have hs2 := hg.size
  have hgl : lb < g := by
    rcases hat with e | e
    · have := ho g e; omega
    · omega
  refine ⟨?_, ?_, ?_, h4, ?_⟩
  · rw [Fo.app_len]
    refine hown.kept (row := some lb) ⟨rfl, rfl, rfl, by simp [World.setCell], fun k _ hk => Below.heap_setCell _ _ _ _ (fun e => hk (by simp [e]))⟩ (Or.inr ?_)
    intro e
    have : g = lb := by simpa [Value.ownBlock] using e
    omega
  · have hL2 : LList w (fun i => (lb < i ∧ some i ≠ v.ownBlock) ∧ i < w.heap.size) (P.app G) (vs ++ news) := (h2.app hk).weak (fun i hi h => ⟨h, hi⟩)
    have hA : Agree (fun i => (lb < i ∧ some i ≠ v.ownBlock) ∧ i < w.heap.size) w (w4.setCell ⟨lb, 3, none⟩ (.slice (some ⟨g, 0, none⟩) (P.len + G.len) c)) :=
      ⟨by simp [World.setCell]; omega, fun i hi hk => (hset i (by omega)).trans (h34 i hi (fun e => hk.1.2 e.symm))⟩
    refine (hL2.agree hA).weak (fun i _ ⟨⟨h1, h2⟩, h3⟩ => ⟨h1, fun e => ?_⟩)
    have e2 : i = g := by simpa [Value.ownBlock] using e
    rcases hat with hat | hat
    · exact h2 (by rw [hat, e2])
    · omega
  · have hb4 := (h34 lb hl (fun e => by have := ho lb e; omega)).trans h3
    simp [World.setCell, Array.getElem?_modify, hb4]
  · exact (h5.grown hg h5.size (fun i e => by have := ho i e; omega)).setCell (p := ⟨lb, 3, none⟩) h4 _
theorem RM.slice {w0 : World} {lb : Nat} {v : Value} {P : Fo} {vs : List Value} {w : World} (h : RM w0 lb v P vs w) : ∃ a' cp', v = .slice a' P.len cp' ∧ SlAt w (fun _ => True) a' P := by
  have hl := h.list.len
  rcases h.own.2 with ⟨hv, h0⟩ | ⟨g, cap, cur, hv, hg, hgb, hn, hm, hs, ht⟩
  · exact ⟨none, 0, by rw [hv, h0], .inl h0⟩
  · refine ⟨some ⟨g, 0, none⟩, cap, hv, .inr ⟨g, 0, rfl, blk_lt hgb, trivial, ?_⟩⟩
    refine (LList.row (b := g) (off := 0) h.list (fun j hj => ?_)).weak (fun i _ h => trivial)
    rw [Nat.zero_add]
    have h1 : w.cell? ⟨g, j, none⟩ = cur[j]? := by simp [World.cell?, hgb]
    have h2 : (cur.toList.take (P.len * 4))[j]? = vs[j]? := by rw [ht]
    rw [List.getElem?_take_of_lt (by omega), Array.getElem?_toList] at h2
    rw [h1, h2]
namespace Bk
def colN (z : List Int) (len i : Nat) : Nat := if i < len then lowN (z.getD i 0) 12 else 0
def wrdS (z : List Int) (i : Nat) : ByteArray := if lowN (z.getD i 0) 11 < 10 then wordS (lowN (z.getD i 0) 11 : Nat) else ByteArray.empty
theorem colN_lt (z : List Int) (len i : Nat) : colN z len i < 12 := by
  unfold colN
  split
  · have := lowN_lt (x := z.getD i 0) (n := 12) (by omega); omega
  · omega
theorem wrdS_good (z : List Int) (i : Nat) : ((∃ m, Gd (wrdS z i) m) ∧ (∀ j, j < (wrdS z i).size → bt (wrdS z i) j ≠ 10)) ∧ (wrdS z i).size ≤ 3 := by
  unfold wrdS
  split
  · exact ⟨word_gd _, (wordS_is _).1⟩
  · exact ⟨⟨⟨0, .nil⟩, lf_none⟩, by decide⟩
theorem rowsF_len (c : Nat → Int) (t : Nat → ByteArray) : ∀ n, (rowsF c t n).len = 2 * n
  | 0 => rfl
  | n + 1 => by rw [rowsF, Fo.app_len, rowsF_len c t n]; show _ + 2 = _; omega
theorem rowsS_size (c : Nat → Int) (t : Nat → ByteArray) (hc : ∀ i, 0 ≤ c i ∧ c i < 12) (ht : ∀ i, (t i).size ≤ 3) : ∀ n, (rowsS c t n).size ≤ 16 * n
  | 0 => Nat.le_refl _
  | n + 1 => by
    have h1 := hc n
    have h2 := ht n
    have h3 := rowsS_size c t hc ht n
    have h4 : (⟨#[10]⟩ : ByteArray).size = 1 := rfl
    rw [rowsS, size_app]
    split
    · omega
    · rw [size_app, size_app, manyS_size]; omega
theorem rowsF_good (c : Nat → Int) (t : Nat → ByteArray) (hc : ∀ i, 0 ≤ c i ∧ c i < 12) (ht : ∀ i, (∃ m, Gd (t i) m) ∧ (∀ j, j < (t i).size → bt (t i) j ≠ 10)) : ∀ n, GoodF (rowsF c t n)
  | 0 => trivial
  | n + 1 => by
    have h1 := hc n
    exact good_app (rowsF_good c t hc ht n) ⟨⟨0, .nil⟩, lf_none, by decide, fun h => absurd h (by decide), ⟨h1.1, by omega⟩, good_leaf (by omega) (ht n).1 (ht n).2 (by omega) trivial, good_leaf (by omega) ⟨0, .nil⟩ lf_none (by omega) trivial⟩
theorem rowsF_short (c : Nat → Int) (t : Nat → ByteArray) : ∀ n, ShortF (rowsF c t n)
  | 0 => trivial
  | n + 1 => short_app (rowsF_short c t n) ⟨by show 1 ≤ _; omega, ⟨by show 0 ≤ _; omega, trivial, trivial⟩, by show 0 ≤ _; omega, trivial, trivial⟩
theorem rowsF_cost (c : Nat → Int) (t : Nat → ByteArray) (ht : ∀ i, (t i).size ≤ 3) : ∀ n, costF (rowsF c t n) ≤ 6 * n
  | 0 => Nat.le_refl _
  | n + 1 => by
    have h1 := ht n
    have h2 := rowsF_cost c t ht n
    have h4 : ByteArray.empty.size = 0 := rfl
    rw [rowsF, cost_app]; unfold rowF; simp only [costF]; omega
theorem rowsF_nst (c : Nat → Int) (t : Nat → ByteArray) (hc : ∀ i, 0 ≤ c i ∧ c i < 12) : ∀ n, nstF (rowsF c t n) ≤ 12 * n
  | 0 => Nat.le_refl _
  | n + 1 => by
    have h1 := hc n
    have h2 := rowsF_nst c t hc n
    have e0 : (clampN 0).toNat = 0 := by decide
    have e1 : clampN (c n) = c n := clamp_is (by omega) (by omega)
    rw [rowsF, nst_app]; unfold rowF; simp only [nstF, e1]; omega
end Bk
theorem rows_lays (c : Nat → Int) (t : Nat → ByteArray) (hc : ∀ i, 0 ≤ c i ∧ c i < 12) (ht : ∀ i, ((∃ m, Bk.Gd (t i) m) ∧ (∀ j, j < (t i).size → bt (t i) j ≠ 10)) ∧ (t i).size ≤ 3) (n : Nat) (hn : n ≤ 8) : Lays 5 0 ⟨#[]⟩ (Bk.rowsF c t n) := by
  have h1 := Bk.rowsF_len c t n
  have h2 := Bk.rowsF_cost c t (fun i => (ht i).2) n
  have h3 := Bk.rowsF_nst c t hc n
  have e0 : (Bk.clampN 0).toNat = 0 := by decide
  have e2 : (⟨#[]⟩ : ByteArray).size = 0 := rfl
  exact ⟨⟨⟨0, .nil⟩, fun j hj => absurd hj (Nat.not_lt_zero j), by decide, fun h => absurd h (by decide), by decide, Bk.rowsF_good c t hc (fun i => (ht i).1) n, trivial⟩, Bk.rowsF_short c t n, by omega, by omega, by omega⟩
/-- A row's layouts, made anew. -/
theorem row_list {w : World} {ok : Nat → Prop} {c : Int} {t : ByteArray} (hok : ok w.heap.size) :
    LList ((w.alloc (.cells #[.int .i64 1, .string t, .int .i64 0, .slice none 0 0] 26)).alloc (.cells #[.int .i64 6, .string ⟨#[]⟩, .int .i64 c, .slice (some ⟨w.heap.size, 0, none⟩) 1 1, .int .i64 4, .string ⟨#[]⟩, .int .i64 0, .slice none 0 0] 26)) ok
      (Bk.rowF c t) [.int .i64 6, .string ⟨#[]⟩, .int .i64 c, .slice (some ⟨w.heap.size, 0, none⟩) 1 1, .int .i64 4, .string ⟨#[]⟩, .int .i64 0, .slice none 0 0] := by
  have hb := heap_alloc_new w (.cells #[.int .i64 1, .string t, .int .i64 0, .slice none 0 0] 26)
  have hb2 : ((w.alloc (.cells #[.int .i64 1, .string t, .int .i64 0, .slice none 0 0] 26)).alloc (.cells #[.int .i64 6, .string ⟨#[]⟩, .int .i64 c, .slice (some ⟨w.heap.size, 0, none⟩) 1 1, .int .i64 4, .string ⟨#[]⟩, .int .i64 0, .slice none 0 0] 26)).heap[w.heap.size]? = some (.cells #[.int .i64 1, .string t, .int .i64 0, .slice none 0 0] 26 (0, 0)) := by
    rw [Below.heap_alloc _ _ _ (by simp)]; exact hb
  refine ⟨some ⟨w.heap.size, 0, none⟩, 1, _, rfl, .inr ⟨w.heap.size, 0, rfl, by simp; omega, hok, ?_, ?_, ?_, ⟨none, 0, ?_, .inl rfl⟩, trivial⟩, none, 0, _, rfl, .inl rfl, rfl⟩
  all_goals (rw [Lib.cell_of_heap hb2]; rfl)
/-- Append of a row's layouts, made anew, to those so far. -/
theorem app_rm {ops : Array Oper} {rest : List Oper} {o : Oper} {a : Act} {Q : Exit → Act → World → Prop} {w0 wr wx : World} {lb : Nat} (hgd : o.guard = none) (s x : Operand)
    (ho : o.op = .call { callee := .builtin .append, args := #[s, x], argTypes := #[24, 24] }) (v : Value) (P : Fo) (vs : List Value) (c : Int) (t : ByteArray) (hs : a.eval s = v)
    (hx : a.eval x = .slice (some ⟨wr.heap.size + 1, 0, none⟩) 2 2) (hR : Hid (RM w0 lb v P vs wr)) (hlen : P.len ≤ 1000000)
    (hwx : wx = (wr.alloc (.cells #[.int .i64 1, .string t, .int .i64 0, .slice none 0 0] 26)).alloc (.cells #[.int .i64 6, .string ⟨#[]⟩, .int .i64 c, .slice (some ⟨wr.heap.size, 0, none⟩) 1 1, .int .i64 4, .string ⟨#[]⟩, .int .i64 0, .slice none 0 0] 26))
    (h : ∀ g cp w4, w4.cell? ⟨lb, 3, none⟩ = some v → w4.frozen? ⟨lb, 3, none⟩ = false →
      Hid (∃ vs', RM w0 lb (.slice (some ⟨g, 0, none⟩) (P.len + 2) cp) (P.app (Bk.rowF c t)) vs' (w4.setCell ⟨lb, 3, none⟩ (.slice (some ⟨g, 0, none⟩) (P.len + 2) cp))) →
      wpList Try.prog ops Q rest (a.put o.dst (.slice (some ⟨g, 0, none⟩) (P.len + 2) cp)) w4) :
    wpList Try.prog ops Q (o :: rest) a wx := by
  obtain ⟨i0, hi, hz0, hz1, hz2⟩ := info_parts Try.info26
  have hsz : wx.heap.size = wr.heap.size + 1 + 1 := by rw [hwx]; simp
  have hbel : Below wr.heap.size wr wx := by rw [hwx]; exact ((Below.refl _ _).alloc (Nat.le_refl _) _).alloc (by simp) _
  have hRx := hR.out.call hbel
  have hnew : wx.heap[wr.heap.size + 1]? = some (.cells #[.int .i64 6, .string ⟨#[]⟩, .int .i64 c, .slice (some ⟨wr.heap.size, 0, none⟩) 1 1, .int .i64 4, .string ⟨#[]⟩, .int .i64 0, .slice none 0 0] 26 (0, 0)) := by
    have h1 : (wr.alloc (.cells #[.int .i64 1, .string t, .int .i64 0, .slice none 0 0] 26)).heap.size = wr.heap.size + 1 := by simp
    rw [hwx, ← h1]; exact heap_alloc_new _ _
  have hlt := hR.out.lt
  have hol := hR.out.own_lt
  refine wpList_append_lies _ hgd s x 24 ho (lb + 1) 26 i0 _ 4 56 Try.underlying24 hi hz0 hz1 hz2 rfl (by decide) v P.len vs hs hRx.own ⟨wr.heap.size + 1, 0, none⟩ 2 2
    [.int .i64 6, .string ⟨#[]⟩, .int .i64 c, .slice (some ⟨wr.heap.size, 0, none⟩) 1 1, .int .i64 4, .string ⟨#[]⟩, .int .i64 0, .slice none 0 0] hx rfl ?_ ?_ (by decide) ?_ ?_ ?_ (wr.heap.size + 1 + 1) hsz ?_
  · exact fun j u hu => World.news_of_block hnew j u (by simpa using hu)
  · simp [Value.oneCell']
  · unfold maxLen; omega
  · omega
  · omega
  · intro g cap w' hown' hgrow hat hltg
    obtain ⟨g3, gf⟩ := hRx.grown hgrow
    refine h g cap w' g3 gf (Lib.hid ⟨_, hRx.app (G := Bk.rowF c t) ?_ hown' hgrow (by rw [hsz]; exact hat)⟩)
    rw [hwx]
    refine row_list ⟨hlt, fun e => ?_⟩
    have := (hol wr.heap.size e.symm).2
    omega
end Go.Proofs.Ythkpoiideiimaaa
