/- Rows of layouts that a call makes: what a walk is told. -/
import Derived.Test.YthkpoiideiimaaaMak2
import Derived.Deep.RegionLaw
import Derived.Deep.AppendLies
namespace Go.Proofs.Ythkpoiideiimaaa
open Go Go.RowKit Go.PlainAid
set_option linter.unusedVariables false
open Bk (Fo)
/-- The cells of layouts, in a list. -/
def LList (w : World) (ok : Nat → Prop) : Fo → List Value → Prop
  | .nil, vs => vs = []
  | .cons k t n kids rest, vs => ∃ a cp us, vs = .int .i64 k :: .string t :: .int .i64 n :: .slice a kids.len cp :: us ∧ SlAt w ok a kids ∧ LList w ok rest us
theorem LList.agree {w w' : World} {ok : Nat → Prop} (k : Agree ok w w') : ∀ {F : Fo} {vs : List Value}, LList w ok F vs → LList w' ok F vs
  | .nil, vs, h => h
  | .cons kd t n kids rest, vs, ⟨a, cp, us, h1, h2, h3⟩ => ⟨a, cp, us, h1, h2.agree k, LList.agree k h3⟩
theorem LList.weak {w : World} {ok ok' : Nat → Prop} (hok : ∀ i, i < w.heap.size → ok i → ok' i) : ∀ {F : Fo} {vs : List Value}, LList w ok F vs → LList w ok' F vs
  | .nil, vs, h => h
  | .cons kd t n kids rest, vs, ⟨a, cp, us, h1, h2, h3⟩ => ⟨a, cp, us, h1, h2.weak hok, LList.weak hok h3⟩
theorem LList.len {w : World} {ok : Nat → Prop} : ∀ {F : Fo} {vs : List Value}, LList w ok F vs → vs.length = F.len * 4
  | .nil, vs, h => by rw [show vs = [] from h]; rfl
  | .cons kd t n kids rest, vs, ⟨a, cp, us, h1, h2, h3⟩ => by
    rw [h1]; simp only [List.length_cons, Fo.len, LList.len h3]; omega
theorem LList.put {w : World} {ok : Nat → Prop} {k n : Int} {t : ByteArray} {kids : Fo} {a : Option Addr} {cp : Nat} (hs : SlAt w ok a kids) : ∀ {F : Fo} {vs : List Value}, LList w ok F vs → LList w ok (F.app (.cons k t n kids .nil)) (vs ++ [.int .i64 k, .string t, .int .i64 n, .slice a kids.len cp])
  | .nil, vs, h => by rw [show vs = [] from h]; exact ⟨a, cp, [], rfl, hs, rfl⟩
  | .cons kd t' n' kids' rest, vs, ⟨a', cp', us, h1, h2, h3⟩ => by rw [h1]; exact ⟨a', cp', us ++ _, rfl, h2, LList.put hs h3⟩
theorem LList.row {w : World} {ok : Nat → Prop} {b : Nat} : ∀ {F : Fo} {vs : List Value} {off : Nat}, LList w ok F vs → (∀ j, j < vs.length → w.cell? ⟨b, off + j, none⟩ = vs[j]?) → RowAt w ok F b off
  | .nil, vs, off, h, hc => trivial
  | .cons kd t n kids rest, vs, off, ⟨a, cp, us, h1, h2, h3⟩, hc => by
    subst h1
    refine ⟨?_, ?_, ?_, ⟨a, cp, ?_, h2⟩, LList.row h3 (fun j hj => ?_)⟩
    · have := hc 0 (by simp); simpa using this
    · have := hc 1 (by simp); simpa using this
    · have := hc 2 (by simp); simpa using this
    · have := hc 3 (by simp); simpa using this
    · have := hc (j + 4) (by simpa using hj)
      rw [show off + 4 + j = off + (j + 4) from by omega, this]; rfl
/-- Layouts so far, in a row of the call's own behind block lb, that the layout in block lb has; the maker; the result's block. -/
structure LM (mb : Nat) (a : Option Addr) (len cap : Nat) (z : List Int) (w0 : World) (rb lb : Nat) (kd nn : Int) (v : Value) (P : Fo) (vs : List Value) (q : Nat) (w : World) : Prop where
  own : w.ownsRow (lb + 1) 26 4 v P.len vs
  list : LList w (fun i => lb < i ∧ some i ≠ v.ownBlock) P vs
  blk : w.heap[lb]? = some (.cells #[.int .i64 kd, .string ByteArray.empty, .int .i64 nn, v] 26 (0, 0))
  hlb : w0.heap.size ≤ lb
  hrb : rb < lb ∧ rb ≠ mb
  res : w.heap[rb]? = some (.cells #[.int .i64 0, .string ByteArray.empty, .int .i64 0, .slice none 0 0] 26 (0, 0))
  mkr : Mk mb a len cap z q w
  hmb : mb < w0.heap.size
  stay : MStay mb w0 w
theorem LM.lt {mb : Nat} {a : Option Addr} {len cap : Nat} {z : List Int} {w0 : World} {rb lb : Nat} {kd nn : Int} {v : Value} {P : Fo} {vs : List Value} {q : Nat} {w : World} (h : LM mb a len cap z w0 rb lb kd nn v P vs q w) : lb < w.heap.size := blk_lt h.blk
/-- Behind a call that turns the maker alone. -/
theorem LM.call {mb : Nat} {a : Option Addr} {len cap : Nat} {z : List Int} {w0 : World} {rb lb : Nat} {kd nn : Int} {v : Value} {P : Fo} {vs : List Value} {q q2 : Nat} {w w2 : World} (h : LM mb a len cap z w0 rb lb kd nn v P vs q w) (hs : MStay mb w w2) (hm : Mk mb a len cap z q2 w2) :
    LM mb a len cap z w0 rb lb kd nn v P vs q2 w2 := by
  obtain ⟨h1, h2, h3, h4, hrb, h5, h6, h7, h8⟩ := h
  have hl := blk_lt h3
  refine ⟨?_, ?_, (hs.blk lb hl (by omega)).trans h3, h4, hrb, (hs.blk rb (blk_lt h5) (by omega)).trans h5, hm, h7, h8.trans hs⟩
  · refine ⟨h1.1, ?_⟩
    rcases h1.2 with hn | ⟨g, cap, cur, hv, hg, hgb, rest⟩
    · exact .inl hn
    · exact .inr ⟨g, cap, cur, hv, hg, (hs.blk g (blk_lt hgb) (by omega)).trans hgb, rest⟩
  · exact h2.agree ⟨hs.below.size, fun i hi hk => hs.blk i hi (by omega)⟩
/-- Behind an append of one, and the store of the row. -/
theorem LM.app {mb : Nat} {a : Option Addr} {len cap : Nat} {z : List Int} {w0 : World} {rb lb : Nat} {kd nn : Int} {v : Value} {P : Fo} {vs : List Value} {q : Nat} {w w3 w4 : World} (h : LM mb a len cap z w0 rb lb kd nn v P vs q w) (hb : Below w.heap.size w w3)
    {k n : Int} {t : ByteArray} {kids : Fo} {a' : Option Addr} {cp' : Nat} (hk : SlAt w (fun i => lb < i ∧ some i ≠ v.ownBlock) a' kids) {g c : Nat}
    (hown : w4.ownsRow (lb + 1) 26 4 (.slice (some ⟨g, 0, none⟩) (P.len + 1) c) (P.len + 1) (vs ++ [.int .i64 k, .string t, .int .i64 n, .slice a' kids.len cp'])) (hg : w3.grownBy w4 v.ownBlock) (hat : v.ownBlock = some g ∨ g = w3.heap.size) :
    LM mb a len cap z w0 rb lb kd nn (.slice (some ⟨g, 0, none⟩) (P.len + 1) c) (P.app (.cons k t n kids .nil)) (vs ++ [.int .i64 k, .string t, .int .i64 n, .slice a' kids.len cp']) q (w4.setCell ⟨lb, 3, none⟩ (.slice (some ⟨g, 0, none⟩) (P.len + 1) c)) := by
  obtain ⟨h1, h2, h3, h4, hrb, h5, h6, h7, h8⟩ := h
  have hl := blk_lt h3
  have hr := blk_lt h5
  have ho : ∀ i, v.ownBlock = some i → lb + 1 ≤ i := fun i e => (World.ownsRow.lt h1 i e).1
  have hol : ∀ i, v.ownBlock = some i → i < w.heap.size := fun i e => by
    rcases h1.2 with ⟨hv, _⟩ | ⟨g, cap, cur, hv, _, hgb, _⟩
    · rw [hv] at e; simp [Value.ownBlock] at e
    · rw [hv] at e
      have : g = i := by simpa [Value.ownBlock] using e
      rw [← this]; exact blk_lt hgb
  have h34 : ∀ i, i < w.heap.size → v.ownBlock ≠ some i → w4.heap[i]? = w.heap[i]? := fun i hi hn => (hg.block i (Nat.lt_of_lt_of_le hi hb.size) (fun e => hn e.symm)).trans (hb.block i hi)
  have hset : ∀ i, i ≠ lb → (w4.setCell ⟨lb, 3, none⟩ (.slice (some ⟨g, 0, none⟩) (P.len + 1) c)).heap[i]? = w4.heap[i]? := fun i hi => Below.heap_setCell _ _ _ _ hi
  have hs1 := hb.size
  have hs2 := hg.size
  have hgl : lb < g := by
    rcases hat with e | e
    · have := ho g e; omega
    · omega
  refine ⟨?_, ?_, ?_, h4, hrb, ?_, ?_, h7, ?_⟩
  · rw [Fo.app_len]
    have ho4 : w4.ownsRow (lb + 1) 26 4 (.slice (some ⟨g, 0, none⟩) (P.len + 1) c) (P.len + 1) (vs ++ [.int .i64 k, .string t, .int .i64 n, .slice a' kids.len cp']) := hown
    refine ho4.kept (row := some lb) ⟨rfl, rfl, rfl, by simp [World.setCell], fun k _ hk => Below.heap_setCell _ _ _ _ (fun e => hk (by simp [e]))⟩ (Or.inr ?_)
    intro e
    have : g = lb := by simpa [Value.ownBlock] using e
    omega
  · have hL := LList.put (k := k) (n := n) (t := t) (cp := cp') hk h2
    have hL2 : LList w (fun i => (lb < i ∧ some i ≠ v.ownBlock) ∧ i < w.heap.size) (P.app (.cons k t n kids .nil)) (vs ++ [.int .i64 k, .string t, .int .i64 n, .slice a' kids.len cp']) := hL.weak (fun i hi h => ⟨h, hi⟩)
    have hA : Agree (fun i => (lb < i ∧ some i ≠ v.ownBlock) ∧ i < w.heap.size) w (w4.setCell ⟨lb, 3, none⟩ (.slice (some ⟨g, 0, none⟩) (P.len + 1) c)) :=
      ⟨by simp [World.setCell]; omega, fun i hi hk => (hset i (by omega)).trans (h34 i hi (fun e => hk.1.2 e.symm))⟩
    refine (hL2.agree hA).weak (fun i _ ⟨⟨h1, h2⟩, h3⟩ => ⟨h1, fun e => ?_⟩)
    have e2 : i = g := by simpa [Value.ownBlock] using e
    rcases hat with hat | hat
    · exact h2 (by rw [hat, e2])
    · omega
  · have hb4 := (h34 lb hl (fun e => by have := ho lb e; omega)).trans h3
    simp [World.setCell, Array.getElem?_modify, hb4]
  · exact (hset _ (by omega)).trans ((h34 _ hr (fun e => by have := ho _ e; omega)).trans h5)
  · have hm3 := h6.below hb
    refine Mk.put ?_ (by omega) _ _
    have hml := h6.lt
    refine ⟨(h34 mb hml (fun e => by have := ho mb e; omega)).trans h6.blk, ?_⟩
    rcases h6.ints with h0 | ⟨b, off, rfl, hbm, hc⟩
    · exact .inl h0
    · exact .inr ⟨b, off, rfl, hbm, fun j hj => (World.cell?_of_block (h34 b (by omega) (fun e => by have := ho b e; omega))).trans (hc j hj)⟩
  · refine MStay.put ⟨(h8.below.trans (hb.mono (by omega))).grown hg (by omega) (fun i e => by have := ho i e; omega), fun i hi hn => (h34 i (by have := h8.below.size; omega) (fun e => by have := ho i e; omega)).trans (h8.blk i hi hn)⟩ (by omega) h7 _ _
/-- What a walk is told of the layout's block. -/
theorem LM.cells {mb : Nat} {a : Option Addr} {len cap : Nat} {z : List Int} {w0 : World} {rb lb : Nat} {kd nn : Int} {v : Value} {P : Fo} {vs : List Value} {q : Nat} {w : World} (h : LM mb a len cap z w0 rb lb kd nn v P vs q w) :
    w.cell? ⟨lb, 0, none⟩ = some (.int .i64 kd) ∧ w.cell? ⟨lb, 1, none⟩ = some (.string ByteArray.empty) ∧ w.cell? ⟨lb, 2, none⟩ = some (.int .i64 nn) ∧ w.cell? ⟨lb, 3, none⟩ = some v ∧ w.frozen? ⟨lb, 3, none⟩ = false := by
  have hb := h.blk
  exact ⟨by rw [Lib.cell_of_heap hb]; rfl, by rw [Lib.cell_of_heap hb]; rfl, by rw [Lib.cell_of_heap hb]; rfl, by rw [Lib.cell_of_heap hb]; rfl, Lib.frozen_of_heap hb 3⟩
theorem LM.grown {mb : Nat} {a : Option Addr} {len cap : Nat} {z : List Int} {w0 : World} {rb lb : Nat} {kd nn : Int} {v : Value} {P : Fo} {vs : List Value} {q : Nat} {w w3 w4 : World} (h : LM mb a len cap z w0 rb lb kd nn v P vs q w) (hb : Below w.heap.size w w3) (hg : w3.grownBy w4 v.ownBlock) :
    w4.cell? ⟨lb, 3, none⟩ = some v ∧ w4.frozen? ⟨lb, 3, none⟩ = false := by
  have hl := h.lt
  have e : w4.heap[lb]? = some (.cells #[.int .i64 kd, .string ByteArray.empty, .int .i64 nn, v] 26 (0, 0)) :=
    ((hg.block lb (Nat.lt_of_lt_of_le hl hb.size) (fun e => by have := (World.ownsRow.lt h.own lb e.symm).1; omega)).trans (hb.block lb hl)).trans h.blk
  exact ⟨by rw [Lib.cell_of_heap e]; rfl, Lib.frozen_of_heap e 3⟩
/-- What was made, as a slice. -/
theorem LM.slice {mb : Nat} {a : Option Addr} {len cap : Nat} {z : List Int} {w0 : World} {rb lb : Nat} {kd nn : Int} {v : Value} {P : Fo} {vs : List Value} {q : Nat} {w : World} (h : LM mb a len cap z w0 rb lb kd nn v P vs q w) :
    ∃ a' cp', v = .slice a' P.len cp' ∧ SlAt w (fun i => lb < i) a' P := by
  have hll := h.hlb
  have hl := h.list.len
  rcases h.own.2 with ⟨hv, h0⟩ | ⟨g, cap, cur, hv, hg, hgb, hn, hm, hs, ht⟩
  · exact ⟨none, 0, by rw [hv, h0], .inl h0⟩
  · refine ⟨some ⟨g, 0, none⟩, cap, hv, .inr ⟨g, 0, rfl, blk_lt hgb, by omega, ?_⟩⟩
    refine (LList.row (b := g) (off := 0) h.list (fun j hj => ?_)).weak (fun i _ h => by omega)
    rw [Nat.zero_add]
    have h1 : w.cell? ⟨g, j, none⟩ = cur[j]? := by simp [World.cell?, hgb]
    have h2 : (cur.toList.take (P.len * 4))[j]? = vs[j]? := by rw [ht]
    rw [List.getElem?_take_of_lt (by omega), Array.getElem?_toList] at h2
    rw [h1, h2]
theorem Try.info26 : (Try.prog.info? 26).map (fun i => (i.zero, i.size, i.bytes)) = some (some (.agg #[.int .i64 0, .string ByteArray.empty, .int .i64 0, .slice none 0 0]), 4, 56) := by kernel_rfl
end Go.Proofs.Ythkpoiideiimaaa
