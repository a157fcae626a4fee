/- What stands between: comments; lists of comments in memory: plain functions. -/
import Derived.Test.YtlmjabnkjmfcmaaGreatHm1
import Derived.Deep.AppendLies
import Derived.Below
import Derived.Deep.MidRow
import Derived.Laws.Tables
import Derived.Laws.Entries
import Derived.Great.BuildSlice
import Derived.Laws.CopyOwn
namespace Go.Proofs.YtlmjabnkjmfcmaaGreat
open Go Go.RowKit Go.PlainAid
set_option linter.unusedVariables false
namespace Bk
/-- A comment: its text, how many blank rows stand above it. -/
structure Cm where
  t : ByteArray
  b : Int
def cmAt (s : ByteArray) (p : Nat) : Cm := ⟨cutS (s.extract (p + 1) (toN s p)), aboveN s p⟩
/-- What stands from a place on up to what is no comment; wi: within brackets, in a column further in than n. -/
def btwL (s : ByteArray) (q : Nat) (n : Int) (wi : Bool) : Nat → Nat → Bool → Nat → List Cm → Bool → Option (List Cm × Bool × Nat)
  | 0, _, _, _, _, _ => none
  | f + 1, p, met, row, out, same =>
    if p < s.size then
      if met = true ∧ (kindN s p = 3 ∨ kindN s p = 4) then (if wi = true ∧ p ≠ q then none else some (out, same, p))
      else if met = true ∧ kindN s p = 5 ∧ wi = false ∧ 0 ≤ tabI s (fromN s p) (toN s p) then none
      else if met = true ∧ kindN s p = 5 ∧ wi = true ∧ p ≠ q ∧ (inN s p : Int) ≤ n then none
      else if whiteB (bt s p) = true then btwL s q n wi f (p + 1) false (if met = true then fromN s p else row) out same
      else if bt s p = 10 then btwL s q n wi f (p + 1) true (if met = true then fromN s p else row) out same
      else if noteB s p = true then btwL s q n wi f (toN s p) false (if met = true then fromN s p else row) (out ++ [cmAt s p])
        (if out.length = 0 then decide (fromN s q ≠ q) && decide (fromN s q = (if met = true then fromN s p else row)) else same)
      else some (out, same, p)
    else some (out, same, p)
def btwS (s : ByteArray) (q : Nat) (n : Int) (wi : Bool) : Option (List Cm × Bool × Nat) := btwL s q n wi (s.size + 1) q (decide (q = fromN s q)) (fromN s q) [] false
theorem to_more {s : ByteArray} {p : Nat} (hp : p < s.size) (h : bt s p ≠ 10) : p + 1 ≤ toN s p := by
  unfold toN
  obtain ⟨f, hf⟩ : ∃ f, s.size - p = f + 1 := ⟨s.size - p - 1, by omega⟩
  rw [hf, runP]
  have : notFeed s p = true := by unfold notFeed; simp [h]
  rw [if_pos this]; omega
theorem note_35 {s : ByteArray} {p : Nat} (h : noteB s p = true) : bt s p = 35 := by
  unfold noteB at h
  rw [Bool.and_eq_true] at h
  simpa using h.1
/-- The comments are no more than the bytes that were passed. -/
theorem btwL_ok (s : ByteArray) (q : Nat) (n : Int) (wi : Bool) : ∀ (f p : Nat) (met : Bool) (row : Nat) (out : List Cm) (same : Bool) (r : List Cm × Bool × Nat), p ≤ s.size → btwL s q n wi f p met row out same = some r → p ≤ r.2.2 ∧ r.2.2 ≤ s.size ∧ r.1.length + p ≤ out.length + r.2.2
  | 0, p, met, row, out, same, r, _, h => by cases h
  | f + 1, p, met, row, out, same, r, hp, h => by
    unfold btwL at h
    split at h
    · rename_i hlt
      split at h
      · split at h
        · cases h
        · cases h; exact ⟨Nat.le_refl _, hp, Nat.le_refl _⟩
      split at h
      · cases h
      split at h
      · cases h
      split at h
      · have := btwL_ok s q n wi f (p + 1) _ _ _ _ r (by omega) h; omega
      split at h
      · have := btwL_ok s q n wi f (p + 1) _ _ _ _ r (by omega) h; omega
      split at h
      · rename_i hn h10 hnt
        have h1 := to_more hlt h10
        have h2 := toN_le (s := s) (k := p) hp
        have := btwL_ok s q n wi f (toN s p) _ _ _ _ r h2 h
        rw [List.length_append] at this
        simp only [List.length_cons, List.length_nil] at this
        omega
      · cases h; exact ⟨Nat.le_refl _, hp, Nat.le_refl _⟩
    · cases h; exact ⟨Nat.le_refl _, hp, Nat.le_refl _⟩
theorem btw_ok {s : ByteArray} {q : Nat} {n : Int} {wi : Bool} {l : List Cm} {same : Bool} {p : Nat} (hq : q ≤ s.size) (h : btwS s q n wi = some (l, same, p)) : q ≤ p ∧ p ≤ s.size ∧ l.length + q ≤ p := by
  have := btwL_ok s q n wi _ _ _ _ _ _ _ hq h
  simpa using this
/-- The cells of comments. -/
def cmV : List Cm → List Value
  | [] => []
  | c :: l => .string c.t :: .int .i64 c.b :: cmV l
theorem cmV_len : ∀ l, (cmV l).length = l.length * 2
  | [] => rfl
  | c :: l => by simp only [cmV, List.length_cons, cmV_len l]; omega
theorem cmV_app : ∀ a b, cmV (a ++ b) = cmV a ++ cmV b
  | [], b => rfl
  | c :: a, b => by simp only [List.cons_append, cmV, cmV_app a b]
end Bk
open Bk (Cm)
/-- What memory holds of comments in a row. -/
def CAt (w : World) : List Cm → Nat → Nat → Prop
  | [], _, _ => True
  | c :: l, b, off => w.cell? ⟨b, off, none⟩ = some (.string c.t) ∧ w.cell? ⟨b, off + 1, none⟩ = some (.int .i64 c.b) ∧ CAt w l b (off + 2)
def CSl (w : World) (ok : Nat → Prop) (l : List Cm) (a : Option Addr) : Prop := l.length = 0 ∨ ∃ b off, a = some ⟨b, off, none⟩ ∧ b < w.heap.size ∧ ok b ∧ CAt w l b off
/-- All blocks that are ok stand as they stood. -/
def Agree (ok : Nat → Prop) (w w' : World) : Prop := w.heap.size ≤ w'.heap.size ∧ ∀ i, i < w.heap.size → ok i → w'.heap[i]? = w.heap[i]?
theorem Agree.cell {ok : Nat → Prop} {w w' : World} (h : Agree ok w w') {b o : Nat} (hb : b < w.heap.size) (hk : ok b) : w'.cell? ⟨b, o, none⟩ = w.cell? ⟨b, o, none⟩ := World.cell?_of_block (h.2 b hb hk)
theorem agree_below {ok : Nat → Prop} {w w' : World} (k : Below w.heap.size w w') : Agree ok w w' := ⟨k.size, fun i hi _ => k.block i hi⟩
theorem CAt.agree {ok : Nat → Prop} {w w' : World} (k : Agree ok w w') : ∀ {l : List Cm} {b off : Nat}, b < w.heap.size → ok b → CAt w l b off → CAt w' l b off
  | [], _, _, _, _, _ => trivial
  | c :: l, b, off, hb, hk, ⟨h1, h2, h3⟩ => ⟨(k.cell hb hk).trans h1, (k.cell hb hk).trans h2, CAt.agree k hb hk h3⟩
theorem CSl.agree {ok : Nat → Prop} {w w' : World} {l : List Cm} {a : Option Addr} (h : CSl w ok l a) (k : Agree ok w w') : CSl w' ok l a := by
  rcases h with h | ⟨b, off, rfl, hb, hk, h⟩
  · exact .inl h
  · exact .inr ⟨b, off, rfl, Nat.lt_of_lt_of_le hb k.1, hk, h.agree k hb hk⟩
theorem CSl.below {ok : Nat → Prop} {w w' : World} {l : List Cm} {a : Option Addr} (h : CSl w ok l a) (k : Below w.heap.size w w') : CSl w' ok l a := h.agree (agree_below k)
theorem CSl.weak {w : World} {ok ok' : Nat → Prop} {l : List Cm} {a : Option Addr} (h : CSl w ok l a) (hok : ∀ i, i < w.heap.size → ok i → ok' i) : CSl w ok' l a := by
  rcases h with h | ⟨b, off, rfl, hb, hk, h⟩
  · exact .inl h
  · exact .inr ⟨b, off, rfl, hb, hok b hb hk, h⟩
theorem CAt.of_cells {w : World} {b : Nat} : ∀ {l : List Cm} {off : Nat}, (∀ j, j < (Bk.cmV l).length → w.cell? ⟨b, off + j, none⟩ = (Bk.cmV l)[j]?) → CAt w l b off
  | [], off, h => trivial
  | c :: l, off, h => by
    refine ⟨?_, ?_, CAt.of_cells (fun j hj => ?_)⟩
    · have := h 0 (by simp [Bk.cmV]); simpa [Bk.cmV] using this
    · have := h 1 (by simp [Bk.cmV]); simpa [Bk.cmV] using this
    · have := h (j + 2) (by simpa [Bk.cmV] using hj)
      rw [show off + 2 + j = off + (j + 2) from by omega, this]; rfl
theorem CAt.cells {w : World} {b : Nat} : ∀ {l : List Cm} {off : Nat}, CAt w l b off → ∀ j u, (Bk.cmV l)[j]? = some u → w.cell? ⟨b, off + j, none⟩ = some u
  | [], off, _, j, u, h => by simp [Bk.cmV] at h
  | c :: l, off, ⟨h1, h2, h3⟩, j, u, h => by
    match j, h with
    | 0, h => simp [Bk.cmV] at h; subst h; exact h1
    | 1, h => simp [Bk.cmV] at h; subst h; exact h2
    | j + 2, h =>
      have := CAt.cells h3 j u (by simpa [Bk.cmV] using h)
      rw [show off + (j + 2) = off + 2 + j from by omega]; exact this
/-- Comments in a row of the call's own. -/
def COwn (B : Nat) (v : Value) (l : List Cm) (w : World) : Prop := w.ownsRow B 56 2 v l.length (Bk.cmV l)
theorem owns_below {B : Nat} {e : TypeId} {size n : Nat} {v : Value} {xs : List Value} {w w' : World} (h : w.ownsRow B e size v n xs) (k : Below w.heap.size w w') : w'.ownsRow B e size v n xs := by
  refine ⟨h.1, ?_⟩
  rcases h.2 with hn | ⟨g, cap, cur, hv, hg, hgb, rest⟩
  · exact .inl hn
  · refine .inr ⟨g, cap, cur, hv, hg, (k.block g ?_).trans hgb, rest⟩
    rcases Nat.lt_or_ge g w.heap.size with h' | h'
    · exact h'
    · simp [Array.getElem?_eq_none h'] at hgb
theorem blk_lt {w : World} {i : Nat} {x : Obj} (h : w.heap[i]? = some x) : i < w.heap.size := by
  rcases Nat.lt_or_ge i w.heap.size with h' | h'
  · exact h'
  · simp [Array.getElem?_eq_none h'] at h
theorem COwn.below {B : Nat} {v : Value} {l : List Cm} {w w' : World} (h : COwn B v l w) (k : Below w.heap.size w w') : COwn B v l w' := owns_below h k
theorem cown_nil (B : Nat) (w : World) : COwn B (.slice none 0 0) [] w := World.ownsRow_nil _ _ _ _
theorem COwn.slice {B : Nat} {v : Value} {l : List Cm} {w : World} (h : COwn B v l w) : ∃ a cp, v = .slice a l.length cp ∧ CSl w (fun i => B ≤ i) l a := by
  have hl := Bk.cmV_len l
  rcases h.2 with ⟨hv, h0⟩ | ⟨g, cap, cur, hv, hg, hgb, hn, hm, hs, ht⟩
  · exact ⟨none, 0, by rw [hv, h0], .inl h0⟩
  · refine ⟨some ⟨g, 0, none⟩, cap, hv, .inr ⟨g, 0, rfl, blk_lt hgb, hg, CAt.of_cells (fun j hj => ?_)⟩⟩
    rw [Nat.zero_add]
    have h1 : w.cell? ⟨g, j, none⟩ = cur[j]? := by simp [World.cell?, hgb]
    have h2 : (cur.toList.take (l.length * 2))[j]? = (Bk.cmV l)[j]? := by rw [ht]
    rw [List.getElem?_take_of_lt (by omega), Array.getElem?_toList] at h2
    rw [h1, h2]
theorem Tryz.info56 : (Tryz.prog.info? 56).map (fun i => (i.zero, i.size, i.bytes)) = some (some (.agg #[.string ByteArray.empty, .int .i64 0]), 2, 24) := by kernel_rfl
/-- Append of one comment, made anew. -/
theorem app_cm {ops : Array Oper} {rest : List Oper} {o : Oper} {a : Act} {Q : Exit → Act → World → Prop} {w0 wr wx : World} (hgd : o.guard = none) (s x : Operand)
    (ho : o.op = .call { callee := .builtin .append, args := #[s, x], argTypes := #[25, 25] }) (v : Value) (l : List Cm) (c : Cm) (hs : a.eval s = v)
    (hx : a.eval x = .slice (some ⟨wr.heap.size, 0, none⟩) 1 1) (hown : Hid (COwn w0.heap.size v l wr)) (hlen : l.length ≤ 1000000000) (hwx : wx = wr.alloc (.cells #[.string c.t, .int .i64 c.b] 56)) (hb : Hid (Below w0.heap.size w0 wr))
    (h : ∀ v' w', Hid (COwn w0.heap.size v' (l ++ [c]) w') → Hid (Below w0.heap.size w0 w') → wpList Tryz.prog ops Q rest (a.put o.dst v') w') :
    wpList Tryz.prog ops Q (o :: rest) a wx := by
  subst hwx
  obtain ⟨i0, hi, hz0, hz1, hz2⟩ := info_parts Tryz.info56
  have hB : w0.heap.size ≤ wr.heap.size := hb.out.size
  refine wpList_append_lies _ hgd s x 25 ho w0.heap.size 56 i0 _ 2 24 Tryz.underlying25 hi hz0 hz1 hz2 rfl (by decide) v l.length (Bk.cmV l) hs (World.ownsRow.alloc hown.out _) ⟨wr.heap.size, 0, none⟩ 1 1 [.string c.t, .int .i64 c.b] hx rfl ?_ ?_ (by decide) ?_ ?_ ?_ (wr.heap.size + 1) (by simp) ?_
  · exact fun j u hu => World.news_of_block (heap_alloc_new wr (.cells #[.string c.t, .int .i64 c.b] 56)) j u (by simpa using hu)
  · simp [Value.oneCell']
  · unfold maxLen; omega
  · omega
  · simp; omega
  · intro g cap w' hown' hgrow hg hlt
    refine h _ w' (Lib.hid ?_) (Lib.hid ((hb.out.alloc hB _).grown hgrow (by simp; omega) (fun k hk => (World.ownsRow.lt hown.out k hk).1)))
    show w'.ownsRow _ _ _ _ _ _
    rw [List.length_append, Bk.cmV_app]
    exact hown'
theorem results_tmp4 {fn : Func} {t u v x : Tmp} (h : fn.results = #[.tmp t, .tmp u, .tmp v, .tmp x]) (tmps : Array Value) (P : Program) (w : World) :
    (results fn tmps).run P w = .ok (.tuple #[tmps.getD t undef, tmps.getD u undef, tmps.getD v undef, tmps.getD x undef]) w := by
  simp [results, h]
end Go.Proofs.YtlmjabnkjmfcmaaGreat
/- A run on abstract values: the values, and what memory holds of them. -/
namespace Go.Proofs.YtlmjabnkjmfcmaaGreat
open Go Go.RowKit Go.PlainAid
set_option linter.unusedVariables false
/-- Abstract values: slices are what stands in them; ptr: a box by its number, and a cell of it; row: a slice that its holder alone may append to; el: the address of an element, what stands from there on; nz, unk: some number but 0, some number; low: some number, told by what it is after division; bsl: a slice over a box, by its number, its elements' type, cells an element, elements. -/
inductive AV where
  | bool (b : Bool)
  | int (k : IntKind) (n : Int)
  | str (s : ByteArray)
  | ptr (i o : Nat)
  | nil
  | sl (n : Nat) (l : List AV)
  | row (e z n : Nat) (l : List AV)
  | el (l : List AV)
  | agg (l : List AV)
  | tup (l : List AV)
  | fn (f : Nat) (c : List AV)
  | nz (k : IntKind)
  | unk (k : IntKind)
  | low (k : IntKind) (d m : Int)
  | bsl (i e z n : Nat)
  | bad
  deriving Inhabited
namespace AV
/-- A number below d, of any number: what is left, and 0 is for what is below. -/
def lowF (n d : Int) : Int := n % 18446744073709551616 % d
mutual
/-- No row of its own stands within. -/
def flat : AV → Bool
  | .row .. => false
  | .sl _ l | .el l | .agg l | .tup l | .fn _ l => flats l
  | _ => true
def flats : List AV → Bool
  | [] => true
  | x :: l => flat x && flats l
end
mutual
/-- What a value is, in a world: lim: how many cells of a block are never turned; bs: the boxes' blocks. -/
def R (lim : Nat → Nat) (bs : List Nat) (w : World) : AV → Value → Prop
  | .bool b, v => v = .bool b
  | .int k n, v => v = .int k n
  | .str s, v => v = .string s
  | .ptr i o, v => ∃ b, bs[i]? = some b ∧ v = .pointer (some ⟨b, o, none⟩)
  | .nil, v => v = .slice none 0 0
  | .sl n l, v => ∃ a c, v = .slice a n c ∧ n ≤ c ∧ (l = [] ∨ ∃ b o, a = some ⟨b, o, none⟩ ∧ b < w.heap.size ∧ o + l.length ≤ lim b ∧ Rm lim bs w b o l)
  | .row e z n l, v => l.length = n * z ∧ flats l = true ∧ ((v = .slice none 0 0 ∧ n = 0) ∨
      ∃ g c cur, v = .slice (some ⟨g, 0, none⟩) n c ∧ w.heap[g]? = some (.cells cur e (0, 0)) ∧ n ≤ c ∧ c ≤ maxLen ∧ cur.size = c * z ∧ lim g = l.length ∧ Rm lim bs w g 0 l)
  | .el l, v => ∃ b o, v = .pointer (some ⟨b, o, none⟩) ∧ b < w.heap.size ∧ o + l.length ≤ lim b ∧ Rm lim bs w b o l
  | .agg l, v => ∃ vs, v = .agg vs ∧ Rs lim bs w l vs.toList
  | .tup l, v => ∃ vs, v = .tuple vs ∧ Rs lim bs w l vs.toList
  | .fn f c, v => ∃ vs, v = .func (.func f) #[] vs ∧ Rs lim bs w c vs.toList
  | .nz k, v => ∃ n, n ≠ 0 ∧ v = .int k n
  | .unk k, v => ∃ n, v = .int k n
  | .low k d m, v => ∃ n, lowF n d = m ∧ v = .int k n
  | .bsl i e z n, v => ∃ b c cur, bs[i]? = some b ∧ w.heap[b]? = some (.cells cur e (0, 0)) ∧ cur.size = c * z ∧ n ≤ c ∧ c ≤ maxLen ∧ v = .slice (some ⟨b, 0, none⟩) n c
  | .bad, _ => True
def Rs (lim : Nat → Nat) (bs : List Nat) (w : World) : List AV → List Value → Prop
  | [], vs => vs = []
  | x :: l, vs => ∃ v r, vs = v :: r ∧ R lim bs w x v ∧ Rs lim bs w l r
def Rm (lim : Nat → Nat) (bs : List Nat) (w : World) (b o : Nat) : List AV → Prop
  | [] => True
  | x :: l => (∃ v, w.cell? ⟨b, o, none⟩ = some v ∧ R lim bs w x v) ∧ Rm lim bs w b (o + 1) l
end
/-- Worlds in which all that was held is held. -/
structure Ext (lim : Nat → Nat) (bs : List Nat) (w : World) (lim' : Nat → Nat) (bs' : List Nat) (w' : World) : Prop where
  ids : ∀ (i b : Nat), bs[i]? = some b → bs'[i]? = some b
  size : w.heap.size ≤ w'.heap.size
  le : ∀ b, b < w.heap.size → lim b ≤ lim' b
  cell : ∀ b j, b < w.heap.size → j < lim b → w'.cell? ⟨b, j, none⟩ = w.cell? ⟨b, j, none⟩
  shape : ∀ (b : Nat) (cur : Array Value) (e : TypeId) (p : Nat × Nat), w.heap[b]? = some (Obj.cells cur e p) → ∃ cur' : Array Value, w'.heap[b]? = some (.cells cur' e p) ∧ cur'.size = cur.size
/-- A slice of one's own is also one that all may read. -/
def dem : AV → AV
  | .row _ _ n l => .sl n l
  | v => v
def one : AV → Bool
  | .agg _ | .tup _ | .bad => false
  | _ => true
variable {lim lim' : Nat → Nat} {bs bs' : List Nat} {w w' : World}
theorem Rs_len : ∀ {l : List AV} {vs : List Value}, Rs lim bs w l vs → vs.length = l.length
  | [], vs, h => by rw [Rs] at h; rw [h]; rfl
  | x :: l, vs, h => by
    rw [Rs] at h
    obtain ⟨v, r, rfl, -, h2⟩ := h
    rw [List.length_cons, List.length_cons, Rs_len h2]
mutual
theorem R.ext (k : Ext lim bs w lim' bs' w') : ∀ {x : AV} {v : Value}, flat x = true → R lim bs w x v → R lim' bs' w' x v
  | .bool b, v, _, h => h
  | .int _ _, v, _, h => h
  | .str s, v, _, h => h
  | .nz _, v, _, h => h
  | .nil, v, _, h => h
  | .unk _, v, _, h => h
  | .low _ _ _, v, _, h => h
  | .ptr i o, v, _, h => by rw [R] at h ⊢; obtain ⟨b, h1, h2⟩ := h; exact ⟨b, k.ids _ _ h1, h2⟩
  | .bsl i e z n, v, _, h => by
    rw [R] at h ⊢
    obtain ⟨b, c, cur, h1, h2, h3, h4⟩ := h
    obtain ⟨cur', e1, e2⟩ := k.shape b cur e _ h2
    exact ⟨b, c, cur', k.ids _ _ h1, e1, e2.trans h3, h4⟩
  | .sl n l, v, hf, h => by
    rw [R] at h ⊢
    rw [flat] at hf
    obtain ⟨a, c, h1, h2, h3⟩ := h
    refine ⟨a, c, h1, h2, h3.imp id ?_⟩
    rintro ⟨b, o, h4, h5, h6, h7⟩
    exact ⟨b, o, h4, Nat.lt_of_lt_of_le h5 k.size, Nat.le_trans h6 (k.le _ h5), Rm.ext k hf h5 h6 h7⟩
  | .row .., v, hf, h => by rw [flat] at hf; cases hf
  | .el l, v, hf, h => by
    rw [R] at h ⊢
    rw [flat] at hf
    obtain ⟨b, o, h4, h5, h6, h7⟩ := h
    exact ⟨b, o, h4, Nat.lt_of_lt_of_le h5 k.size, Nat.le_trans h6 (k.le _ h5), Rm.ext k hf h5 h6 h7⟩
  | .agg l, v, hf, h => by rw [R] at h ⊢; rw [flat] at hf; obtain ⟨vs, h1, h2⟩ := h; exact ⟨vs, h1, Rs.ext k hf h2⟩
  | .tup l, v, hf, h => by rw [R] at h ⊢; rw [flat] at hf; obtain ⟨vs, h1, h2⟩ := h; exact ⟨vs, h1, Rs.ext k hf h2⟩
  | .fn f l, v, hf, h => by rw [R] at h ⊢; rw [flat] at hf; obtain ⟨vs, h1, h2⟩ := h; exact ⟨vs, h1, Rs.ext k hf h2⟩
  | .bad, v, _, _ => by rw [R]; trivial
theorem Rs.ext (k : Ext lim bs w lim' bs' w') : ∀ {l : List AV} {vs : List Value}, flats l = true → Rs lim bs w l vs → Rs lim' bs' w' l vs
  | [], vs, _, h => h
  | x :: l, vs, hf, h => by
    rw [Rs] at h ⊢
    rw [flats, Bool.and_eq_true] at hf
    obtain ⟨v, r, h1, h2, h3⟩ := h
    exact ⟨v, r, h1, R.ext k hf.1 h2, Rs.ext k hf.2 h3⟩
theorem Rm.ext (k : Ext lim bs w lim' bs' w') : ∀ {l : List AV} {b o : Nat}, flats l = true → b < w.heap.size → o + l.length ≤ lim b → Rm lim bs w b o l → Rm lim' bs' w' b o l
  | [], b, o, _, _, _, _ => by rw [Rm]; trivial
  | x :: l, b, o, hf, hb, hl, h => by
    rw [Rm] at h ⊢
    rw [flats, Bool.and_eq_true] at hf
    rw [List.length_cons] at hl
    obtain ⟨⟨v, h1, h2⟩, h3⟩ := h
    exact ⟨⟨v, (k.cell b o hb (by omega)).trans h1, R.ext k hf.1 h2⟩, Rm.ext k hf.2 hb (by omega) h3⟩
end
def isRow : AV → Bool
  | .row .. => true
  | _ => false
/-- No row stands deeper within. -/
def top (x : AV) : Bool := x.isRow || x.flat
theorem R.keep (k : Ext lim bs w lim' bs' w') {x : AV} {v : Value} (ht : x.top = true) (hr : ∀ g, x.isRow = true → v.ownBlock = some g → w'.heap[g]? = w.heap[g]? ∧ lim' g = lim g) (h : R lim bs w x v) : R lim' bs' w' x v := by
  cases hx : x.isRow with
  | false => rw [top, hx, Bool.false_or] at ht; exact R.ext k ht h
  | true =>
    cases x <;> simp only [isRow, Bool.false_eq_true] at hx
    rename_i e z n l
    rw [R] at h ⊢
    obtain ⟨h1, h2, h3⟩ := h
    refine ⟨h1, h2, h3.imp id ?_⟩
    rintro ⟨g, c, cur, rfl, hb, hn, hc, hs, hl, hm⟩
    obtain ⟨h4, h5⟩ := hr g rfl rfl
    have hlt : g < w.heap.size := by
      rcases Nat.lt_or_ge g w.heap.size with h' | h'
      · exact h'
      · simp [Array.getElem?_eq_none h'] at hb
    exact ⟨g, c, cur, rfl, h4.trans hb, hn, hc, hs, h5.trans hl, Rm.ext k h2 hlt (by omega) hm⟩
theorem R.dem {x : AV} {v : Value} (h : R lim bs w x v) : R lim bs w x.dem v := by
  cases hx : x.isRow with
  | false => cases x <;> first | exact h | cases hx
  | true =>
  cases x <;> simp only [isRow, Bool.false_eq_true] at hx
  rename_i e z n l
  show R lim bs w (.sl n l) v
  rw [R] at h
  rw [R]
  obtain ⟨h1, h2, h3⟩ := h
  rcases h3 with ⟨rfl, rfl⟩ | ⟨g, c, cur, rfl, hb, hn, hc, hs, hl, hm⟩
  · refine ⟨none, 0, rfl, Nat.le_refl _, .inl (List.eq_nil_of_length_eq_zero (by simpa using h1))⟩
  · have hlt : g < w.heap.size := by
      rcases Nat.lt_or_ge g w.heap.size with h' | h'
      · exact h'
      · simp [Array.getElem?_eq_none h'] at hb
    exact ⟨_, c, rfl, hn, .inr ⟨g, 0, rfl, hlt, by omega, hm⟩⟩
theorem dem_flat {x : AV} (h : x.top = true) (hr : ∀ e z n l, x = .row e z n l → flats l = true) : x.dem.flat = true := by
  cases x <;> simp only [AV.dem, flat, top, isRow, Bool.false_or] at h ⊢ <;> first | exact h | skip
  exact hr _ _ _ _ rfl
theorem R.row_flats {e z n : Nat} {l : List AV} {v : Value} (h : R lim bs w (.row e z n l) v) : flats l = true := by
  rw [R] at h; exact h.2.1
theorem R.dem_flat {x : AV} {v : Value} (ht : x.top = true) (h : R lim bs w x v) : x.dem.flat = true := by
  refine AV.dem_flat ht ?_
  rintro e z n l rfl
  exact h.row_flats
mutual
/-- No pointers into boxes within. -/
def pf : AV → Bool
  | .ptr .. | .bsl .. => false
  | .sl _ l | .row _ _ _ l | .el l | .agg l | .tup l | .fn _ l => pfs l
  | _ => true
def pfs : List AV → Bool
  | [] => true
  | x :: l => pf x && pfs l
end
mutual
/-- The boxes that a value points to. -/
def ids : AV → List Nat
  | .ptr i _ => [i]
  | .bsl i _ _ _ => [i]
  | .sl _ l | .row _ _ _ l | .el l | .agg l | .tup l | .fn _ l => idss l
  | _ => []
def idss : List AV → List Nat
  | [] => []
  | x :: l => ids x ++ idss l
end
mutual
/-- The boxes by other numbers. -/
def ren (f : Nat → Nat) : AV → AV
  | .ptr i o => .ptr (f i) o
  | .bsl i e z n => .bsl (f i) e z n
  | .sl n l => .sl n (rens f l)
  | .row e z n l => .row e z n (rens f l)
  | .el l => .el (rens f l)
  | .agg l => .agg (rens f l)
  | .tup l => .tup (rens f l)
  | .fn g l => .fn g (rens f l)
  | v => v
def rens (f : Nat → Nat) : List AV → List AV
  | [] => []
  | x :: l => ren f x :: rens f l
end
theorem rens_len (f : Nat → Nat) : ∀ (l : List AV), (rens f l).length = l.length
  | [] => rfl
  | x :: l => by rw [rens, List.length_cons, List.length_cons, rens_len f l]
theorem rens_map (f : Nat → Nat) : ∀ (l : List AV), rens f l = l.map (ren f)
  | [] => rfl
  | x :: l => by rw [rens, List.map_cons, rens_map f l]
theorem idss_mem {i : Nat} : ∀ {l : List AV}, i ∈ idss l ↔ ∃ x ∈ l, i ∈ ids x
  | [] => by simp [idss]
  | x :: l => by
    rw [idss, List.mem_append, idss_mem (l := l)]
    simp
mutual
theorem flat_ren (f : Nat → Nat) : ∀ (x : AV), (ren f x).flat = x.flat
  | .ptr .. => rfl
  | .bsl .. => rfl
  | .bool _ => rfl
  | .int _ _ => rfl
  | .str _ => rfl
  | .nz _ => rfl
  | .nil => rfl
  | .unk _ => rfl
  | .low _ _ _ => rfl
  | .bad => rfl
  | .row .. => rfl
  | .sl n l => by rw [ren, flat, flat, flats_rens f l]
  | .el l => by rw [ren, flat, flat, flats_rens f l]
  | .agg l => by rw [ren, flat, flat, flats_rens f l]
  | .tup l => by rw [ren, flat, flat, flats_rens f l]
  | .fn g l => by rw [ren, flat, flat, flats_rens f l]
theorem flats_rens (f : Nat → Nat) : ∀ (l : List AV), flats (rens f l) = flats l
  | [] => rfl
  | x :: l => by rw [rens, flats, flats, flat_ren f x, flats_rens f l]
end
theorem isRow_ren (f : Nat → Nat) (x : AV) : (ren f x).isRow = x.isRow := by cases x <;> rfl
theorem top_ren (f : Nat → Nat) (x : AV) : (ren f x).top = x.top := by unfold top; rw [flat_ren, isRow_ren]
mutual
theorem R.ren {f : Nat → Nat} : ∀ {x : AV} {v : Value}, (∀ i ∈ ids x, ∀ b, bs[i]? = some b → bs'[f i]? = some b) → R lim bs w x v → R lim bs' w (ren f x) v
  | .bool b, v, _, h => h
  | .int _ _, v, _, h => h
  | .str s, v, _, h => h
  | .nz _, v, _, h => h
  | .nil, v, _, h => h
  | .unk _, v, _, h => h
  | .low _ _ _, v, _, h => h
  | .ptr i o, v, hf, h => by
    rw [AV.ren, R]
    rw [R] at h
    obtain ⟨b, h1, h2⟩ := h
    exact ⟨b, hf i (by simp [ids]) b h1, h2⟩
  | .bsl i e z n, v, hf, h => by
    rw [AV.ren, R]
    rw [R] at h
    obtain ⟨b, c, cur, h1, h2⟩ := h
    exact ⟨b, c, cur, hf i (by simp [ids]) b h1, h2⟩
  | .sl n l, v, hf, h => by
    rw [AV.ren, R]
    rw [R] at h
    obtain ⟨a, c, h1, h2, h3⟩ := h
    refine ⟨a, c, h1, h2, h3.imp (fun e => by subst e; rfl) ?_⟩
    rintro ⟨b, o, h4, h5, h6, h7⟩
    exact ⟨b, o, h4, h5, by rw [rens_len]; exact h6, Rm.ren (by simpa [ids] using hf) h7⟩
  | .row e z n l, v, hf, h => by
    rw [AV.ren, R]
    rw [R] at h
    rw [rens_len, flats_rens]
    obtain ⟨h1, h2, h3⟩ := h
    refine ⟨h1, h2, h3.imp id ?_⟩
    rintro ⟨g, c, cur, e1, e2, e3, e4, e5, e6, hm⟩
    exact ⟨g, c, cur, e1, e2, e3, e4, e5, e6, Rm.ren (by simpa [ids] using hf) hm⟩
  | .el l, v, hf, h => by
    rw [AV.ren, R]
    rw [R] at h
    obtain ⟨b, o, h4, h5, h6, h7⟩ := h
    exact ⟨b, o, h4, h5, by rw [rens_len]; exact h6, Rm.ren (by simpa [ids] using hf) h7⟩
  | .agg l, v, hf, h => by rw [AV.ren, R]; rw [R] at h; obtain ⟨vs, h1, h2⟩ := h; exact ⟨vs, h1, Rs.ren (by simpa [ids] using hf) h2⟩
  | .tup l, v, hf, h => by rw [AV.ren, R]; rw [R] at h; obtain ⟨vs, h1, h2⟩ := h; exact ⟨vs, h1, Rs.ren (by simpa [ids] using hf) h2⟩
  | .fn g l, v, hf, h => by rw [AV.ren, R]; rw [R] at h; obtain ⟨vs, h1, h2⟩ := h; exact ⟨vs, h1, Rs.ren (by simpa [ids] using hf) h2⟩
  | .bad, v, _, _ => by show R lim bs' w .bad v; rw [R]; trivial
theorem Rs.ren {f : Nat → Nat} : ∀ {l : List AV} {vs : List Value}, (∀ i ∈ idss l, ∀ b, bs[i]? = some b → bs'[f i]? = some b) → Rs lim bs w l vs → Rs lim bs' w (rens f l) vs
  | [], vs, _, h => by rw [Rs] at h; rw [rens, Rs]; exact h
  | x :: l, vs, hf, h => by
    rw [Rs] at h
    rw [rens, Rs]
    rw [idss] at hf
    obtain ⟨v, r, h1, h2, h3⟩ := h
    exact ⟨v, r, h1, R.ren (fun i hi => hf i (List.mem_append_left _ hi)) h2, Rs.ren (fun i hi => hf i (List.mem_append_right _ hi)) h3⟩
theorem Rm.ren {f : Nat → Nat} : ∀ {l : List AV} {b o : Nat}, (∀ i ∈ idss l, ∀ b, bs[i]? = some b → bs'[f i]? = some b) → Rm lim bs w b o l → Rm lim bs' w b o (rens f l)
  | [], b, o, _, _ => by rw [rens, Rm]; trivial
  | x :: l, b, o, hf, h => by
    rw [Rm] at h
    rw [rens, Rm]
    rw [idss] at hf
    obtain ⟨⟨v, h1, h2⟩, h3⟩ := h
    exact ⟨⟨v, h1, R.ren (fun i hi => hf i (List.mem_append_left _ hi)) h2⟩, Rm.ren (fun i hi => hf i (List.mem_append_right _ hi)) h3⟩
end
mutual
theorem ren_pf {f : Nat → Nat} : ∀ {x : AV}, pf x = true → ren f x = x
  | .ptr .., h => by rw [pf] at h; cases h
  | .bsl .., h => by rw [pf] at h; cases h
  | .bool _, _ => rfl
  | .int _ _, _ => rfl
  | .str _, _ => rfl
  | .nz _, _ => rfl
  | .nil, _ => rfl
  | .unk _, _ => rfl
  | .low _ _ _, _ => rfl
  | .bad, _ => rfl
  | .sl n l, h => by rw [pf] at h; rw [ren, rens_pf h]
  | .row e z n l, h => by rw [pf] at h; rw [ren, rens_pf h]
  | .el l, h => by rw [pf] at h; rw [ren, rens_pf h]
  | .agg l, h => by rw [pf] at h; rw [ren, rens_pf h]
  | .tup l, h => by rw [pf] at h; rw [ren, rens_pf h]
  | .fn g l, h => by rw [pf] at h; rw [ren, rens_pf h]
theorem rens_pf {f : Nat → Nat} : ∀ {l : List AV}, pfs l = true → rens f l = l
  | [], _ => rfl
  | x :: l, h => by
    rw [pfs, Bool.and_eq_true] at h
    rw [rens, ren_pf h.1, rens_pf h.2]
end
mutual
theorem ids_pf : ∀ {x : AV}, pf x = true → ids x = []
  | .ptr .., h => by rw [pf] at h; cases h
  | .bsl .., h => by rw [pf] at h; cases h
  | .bool _, _ => rfl
  | .int _ _, _ => rfl
  | .str _, _ => rfl
  | .nz _, _ => rfl
  | .nil, _ => rfl
  | .unk _, _ => rfl
  | .low _ _ _, _ => rfl
  | .bad, _ => rfl
  | .sl n l, h => by rw [pf] at h; rw [ids, idss_pf h]
  | .row e z n l, h => by rw [pf] at h; rw [ids, idss_pf h]
  | .el l, h => by rw [pf] at h; rw [ids, idss_pf h]
  | .agg l, h => by rw [pf] at h; rw [ids, idss_pf h]
  | .tup l, h => by rw [pf] at h; rw [ids, idss_pf h]
  | .fn g l, h => by rw [pf] at h; rw [ids, idss_pf h]
theorem idss_pf : ∀ {l : List AV}, pfs l = true → idss l = []
  | [], _ => rfl
  | x :: l, h => by
    rw [pfs, Bool.and_eq_true] at h
    rw [idss, ids_pf h.1, idss_pf h.2]; rfl
end
/-- What has no pointers does not hang on the boxes. -/
theorem R.free {x : AV} {v : Value} (hp : pf x = true) (h : R lim bs w x v) : R lim bs' w x v := by
  have := R.ren (f := id) (bs' := bs') (fun i hi => by rw [ids_pf hp] at hi; cases hi) h
  rw [ren_pf hp] at this
  exact this
theorem Rs.free {x : List AV} {v : List Value} (hp : pfs x = true) (h : Rs lim bs w x v) : Rs lim bs' w x v := by
  have := Rs.ren (f := id) (bs' := bs') (fun i hi => by rw [idss_pf hp] at hi; cases hi) h
  rw [rens_pf hp] at this
  exact this
end AV
end Go.Proofs.YtlmjabnkjmfcmaaGreat
/- A run on abstract values: the run. -/
namespace Go.Proofs.YtlmjabnkjmfcmaaGreat
open Go Go.RowKit Go.PlainAid
set_option linter.unusedVariables false
namespace Ab
/-- What the run knows of a type: its cells, bytes, is it a struct, its fields' places and cells, of what it is a slice, its zero. -/
structure TD where
  size : Nat
  bytes : Nat
  agg : Bool
  offs : List (Nat × Nat × Bool)
  elem : Option Nat
  zero : List AV
abbrev Tab := Nat → Option TD
abbrev Tm := List (Nat × AV)
structure ASt where
  tm : Tm
  bx : List (List AV)
def get : Tm → Nat → AV
  | [], _ => .bad
  | (k, v) :: r, n =>
    match Nat.beq n k with
    | true => v
    | false => get r n
def put : Tm → Nat → AV → Tm
  | [], n, v => [(n, v)]
  | (k, u) :: r, n, v =>
    match Nat.ble n k with
    | false => (n, v) :: (k, u) :: r
    | true =>
      match Nat.beq n k with
      | true => (n, v) :: r
      | false => (k, u) :: put r n v
def cst : Value → AV
  | .bool b => .bool b
  | .int k n => .int k n
  | .string s => .str s
  | .slice none 0 0 => .nil
  | _ => .bad
def val (tm : Tm) : Operand → AV
  | .tmp t => get tm t
  | .const v => cst v
  | .func f => .fn f []
  | .global _ => .bad
def cells : AV → List AV
  | .agg l => l
  | v => [v]
def ones : List AV → Bool
  | [] => true
  | v :: l => v.one && ones l
/-- The cells from o on are these. -/
def setAt {α : Type} : List α → Nat → List α → List α
  | [], _, _ => []
  | x :: l, 0, [] => x :: l
  | x :: l, 0, v :: vs => v :: setAt l 0 vs
  | x :: l, o + 1, vs => x :: setAt l o vs
/-- A table's entry. -/
def assoc {α : Type} : List (Nat × α) → Nat → Option α
  | [], _ => none
  | (k, v) :: r, n =>
    match Nat.beq n k with
    | true => some v
    | false => assoc r n
def mem (n : Nat) : List Nat → Bool
  | [] => false
  | k :: r =>
    match Nat.beq n k with
    | true => true
    | false => mem n r
/-- What an operation gives: its value; the boxes that it touched; a box that it made; did it do well. -/
structure Out where
  v : AV
  bs : List (List AV)
  nw : List (List AV)
  ok : Bool
def yes (v : AV) (bs : List (List AV)) : Option Out := some ⟨v, bs, [], true⟩
def yesIf (v : AV) (bs : List (List AV)) (ok : Bool) : Option Out := some ⟨v, bs, [], ok⟩
def binI (op : BinOp) (k : IntKind) (a b : Int) : Option (AV × Bool) :=
  match op with
  | .add => some (.int k (k.wrap (a + b)), true)
  | .sub => some (.int k (k.wrap (a - b)), true)
  | .mul => some (.int k (k.wrap (a * b)), true)
  | .rem => some (.int k (a.tmod b), decide (b ≠ 0))
  | .quo => some (.int k (k.wrap (a.tdiv b)), decide (b ≠ 0))
  | .eql => some (.bool (a == b), true)
  | .neq => some (.bool (a != b), true)
  | .lss => some (.bool (decide (a < b)), true)
  | .leq => some (.bool (decide (a ≤ b)), true)
  | .gtr => some (.bool (decide (b < a)), true)
  | .geq => some (.bool (decide (b ≤ a)), true)
  | _ => none
def binS (op : BinOp) (a b : ByteArray) : Option (AV × Bool) :=
  match op with
  | .add => some (.str (a ++ b), decide (a.size + b.size ≤ 1000000000))
  | .eql => some (.bool (decide (a = b)), true)
  | .neq => some (.bool (!decide (a = b)), true)
  | _ => none
def binN (op : BinOp) : Option (AV × Bool) :=
  match op with
  | .eql => some (.bool false, true)
  | .neq => some (.bool true, true)
  | _ => none
def bin (op : BinOp) (x y : AV) : Option (AV × Bool) :=
  match x with
  | .int k a =>
    match y with
    | .int k' b => if k = k' then binI op k a b else none
    | _ => none
  | .str a =>
    match y with
    | .str b => binS op a b
    | _ => none
  | .nz k =>
    match y with
    | .int k' b => if k = k' ∧ b = 0 then binN op else none
    | _ => none
  | _ => none
/-- A slice's elements, as all may read them. -/
def elems : AV → Option (Nat × List AV)
  | .nil => some (0, [])
  | .sl n l => some (n, l)
  | .row _ _ n l => some (n, l)
  | _ => none
/-- What may be appended to. -/
def mine (e z : Nat) : AV → Option (Nat × List AV)
  | .nil => some (0, [])
  | .row e' z' n l => if e' = e ∧ z' = z then some (n, l) else none
  | _ => none
def fillIn (offs : List (Nat × Nat × Bool)) : List AV → List (Nat × AV) → Option (List AV)
  | cs, [] => some cs
  | cs, (i, v) :: r =>
    match offs[i]? with
    | none => none
    | some (o, n, _) => if (cells v).length = n ∧ o + n ≤ cs.length ∧ v.flat = true ∧ ones (cells v) = true then fillIn offs (setAt cs o (cells v)) r else none
def parts : Nat → List (Nat × AV) → Option (List AV)
  | _, [] => some []
  | k, (i, v) :: r => if i = k then (parts (k + 1) r).map (cells v ++ ·) else none
def idOf : AV → List Nat
  | .ptr i _ => [i]
  | _ => []
/-- Boxes that can be reached from some. -/
def reach : Nat → List (List AV) → List Nat → List Nat → List Nat
  | 0, _, _, seen => seen
  | _ + 1, _, [], seen => seen
  | n + 1, bx, i :: r, seen =>
    match mem i seen with
    | true => reach n bx r seen
    | false => reach n bx (AV.idss (bx.getD i []) ++ r) (seen ++ [i])
def subs (l ids : List Nat) : Bool := l.all fun i => mem i ids
/-- Boxes that an operation touches. -/
def touch (ρ : Operand → AV) (bx : List (List AV)) (op : Op) : List Nat :=
  match op with
  | .load _ a => idOf (ρ a)
  | .store _ a _ => idOf (ρ a)
  | .call c =>
    match c.callee with
    | .value f => reach 1000000 bx (AV.ids (ρ f) ++ AV.idss (c.args.toList.map ρ)) []
    | _ => []
  | _ => []
def below (n : Nat) (l : List Nat) : Bool := l.all fun i => Nat.blt i n
/-- A callee's number of a box, by the caller's: those handed in, and new ones. -/
def unId (ids : List Nat) (L j : Nat) : Nat :=
  match ids[j]? with
  | some i => i
  | none => L + (j - ids.length)
abbrev Cal := Nat → List AV → List (List AV) → Option (AV × List (List AV))
/-- The two operands of max, min. -/
def ext2 (mx : Bool) : AV → AV → Option AV
  | .int k a, .int k' b => if k = k' then some (.int k (if mx then (if b > a then b else a) else (if b < a then b else a))) else none
  | _, _ => none
def elT (T : Tab) (t : Nat) : Option (Nat × TD) :=
  match T t with
  | none => none
  | some d =>
    match d.elem with
    | none => none
    | some e =>
      match T e with
      | none => none
      | some d' => some (e, d')
def cLoad (d : TD) (ad : Bool) (a : AV) (bs : List (List AV)) : Option Out :=
  match a with
  | .ptr _ o =>
    match bs with
    | [c] =>
      if d.agg = true then yesIf (.agg (((c.drop o).take d.size).map AV.dem)) bs (decide (o + d.size ≤ c.length))
      else match c[o]? with
        | some v => some ⟨if ad = true then v else v.dem, [if ad = true then setAt c o [v.dem] else c], [], true⟩
        | none => none
    | _ => none
  | .el l =>
    if d.agg = true then yesIf (.agg (l.take d.size)) bs (decide (d.size ≤ l.length))
    else match l with
      | v :: _ => yes v bs
      | [] => none
  | _ => none
def cStore (T : Tab) (t : Nat) (d : TD) (a x : AV) (bs : List (List AV)) : Option Out :=
  match a with
  | .ptr _ o =>
    match bs with
    | [c] => some ⟨.bad, [setAt c o (cells x)], [], decide ((cells x).length = d.size) && decide (o + d.size ≤ c.length) && (if d.agg = true then ones (cells x) && AV.flats (cells x) else x.one)⟩
    | _ => none
  | _ => none
def cSlice (T : Tab) (t : Nat) (x : AV) (lo hi : Option AV) (bs : List (List AV)) : Option Out :=
  match x with
  | .str s =>
    match lo.getD (.int .i64 0) with
    | .int _ a =>
      match hi.getD (.int .i64 s.size) with
      | .int _ b => yesIf (.str (s.extract a.toNat b.toNat)) bs (decide (0 ≤ a) && decide (a ≤ b) && decide (b ≤ s.size) && decide (t = 9))
      | _ => none
    | _ => none
  | v =>
    match elT T t with
    | none => none
    | some (_, d) =>
      match elems v with
      | none => none
      | some (n, l) =>
        match lo.getD (.int .i64 0) with
        | .int _ a =>
          match hi.getD (.int .i64 n) with
          | .int _ b => yesIf (.sl (b.toNat - a.toNat) ((l.drop (a.toNat * d.size)).take ((b.toNat - a.toNat) * d.size))) bs (decide (0 ≤ a) && decide (a ≤ b) && decide (b ≤ n))
          | _ => none
        | _ => none
def cFieldAddr (q : Nat × Nat × Bool) (x : AV) (bs : List (List AV)) : Option Out :=
  match x with
  | .ptr i o => yesIf (.ptr i (o + q.1)) bs (decide (0 < q.2.1))
  | .el l => yesIf (.el (l.drop q.1)) bs (decide (0 < q.2.1) && decide (q.1 < l.length))
  | _ => none
def cField (q : Nat × Nat × Bool) (x : AV) (bs : List (List AV)) : Option Out :=
  match x with
  | .agg l =>
    if q.2.2 = true then yesIf (.agg ((l.drop q.1).take q.2.1)) bs (decide (q.1 + q.2.1 ≤ l.length)) else
    match l[q.1]? with
    | some v => yes v bs
    | none => none
  | _ => none
def cIndexAddr (d : TD) (x i : AV) (bs : List (List AV)) : Option Out :=
  match x with
  | .bsl b _ z m =>
    match i with
    | .int _ n => yesIf (.ptr b (n.toNat * z)) bs (decide (0 ≤ n) && decide (n < m) && decide (d.size = z))
    | _ => none
  | x =>
    match elems x with
    | none => none
    | some (m, l) =>
      match i with
      | .int _ n => yesIf (.el (l.drop (n.toNat * d.size))) bs (decide (0 ≤ n) && decide (n < m) && decide (n.toNat * d.size < l.length))
      | _ => none
def cIndex (t : Nat) (x i : AV) (bs : List (List AV)) : Option Out :=
  match x with
  | .str s =>
    match i with
    | .int _ n => yesIf (.int .u8 (bt s n.toNat)) bs (decide (0 ≤ n) && decide (n < s.size) && decide (t = 9))
    | _ => none
  | _ => none
/-- What append gives: nothing onto nil is nil. -/
def appV (s : AV) (e z n m : Nat) (l : List AV) : AV :=
  match s with
  | .nil =>
    match m with
    | 0 => .nil
    | _ + 1 => .row e z n l
  | _ => .row e z n l
def cAppend (e : Nat) (d : TD) (s x : AV) (ok : Bool) (bs : List (List AV)) : Option Out :=
  match mine e d.size s with
  | none => none
  | some (n, l) =>
    match elems x with
    | none => none
    | some (m, k) => yesIf (appV s e d.size (n + m) m (l ++ k)) bs (ok && decide (n + m ≤ 100000000) && decide (k.length = m * d.size) && decide (0 < d.size) && decide (d.bytes ≤ 1000) && ones k && AV.flats k)
def cLen (T : Tab) (ts : List Nat) (x : AV) (bs : List (List AV)) : Option Out :=
  match ts with
  | [t] =>
    match x with
    | .str s => yesIf (.int .i64 s.size) bs (decide (t = 9))
    | .bsl _ _ _ n => yesIf (.int .i64 n) bs (elT T t).isSome
    | v =>
      match elems v with
      | none => none
      | some (n, _) => yesIf (.int .i64 n) bs (elT T t).isSome
  | _ => none
def cBuiltin (T : Tab) (b : Builtin) (xs : List AV) (ts : List Nat) (bs : List (List AV)) : Option Out :=
  match b with
  | .len =>
    match xs with
    | [x] => cLen T ts x bs
    | _ => none
  | .max =>
    match xs with
    | [x, y] => (ext2 true x y).bind fun v => yes v bs
    | _ => none
  | .min =>
    match xs with
    | [x, y] => (ext2 false x y).bind fun v => yes v bs
    | _ => none
  | .append =>
    match xs with
    | [s, x] =>
      match ts with
      | [t, t'] =>
        match elT T t with
        | none => none
        | some (e, d) => cAppend e d s x (decide (t' = t)) bs
      | _ => none
    | _ => none
  | _ => none
def cCall (cal : Cal) (ids : List Nat) (L : Nat) (f : AV) (xs : List AV) (bs : List (List AV)) : Option Out :=
  match f with
  | .fn f c =>
    if AV.flats c = true ∧ subs (AV.idss (xs.map AV.dem ++ c)) ids = true ∧ (bs.all fun b => subs (AV.idss b) ids) = true then
      match cal f (AV.rens ids.idxOf (xs.map AV.dem ++ c)) (bs.map (AV.rens ids.idxOf)) with
      | some (v, bs') => some ⟨v.ren (unId ids L), (bs'.take ids.length).map (AV.rens (unId ids L)), (bs'.drop ids.length).map (AV.rens (unId ids L)), decide (ids.length ≤ bs'.length) && (below bs'.length v.ids && bs'.all fun c => below bs'.length (AV.idss c))⟩
      | none => none
    else none
  | _ => none
def cBuild (d : TD) (ps : List (Nat × AV)) (bs : List (List AV)) : Option Out :=
  match fillIn d.offs d.zero ps with
  | none => none
  | some l => yesIf (.agg l) bs (d.agg && AV.flats l)
def cBuildSlice (mt : Bool) (L e : Nat) (d : TD) (len : Nat) (ps : List (Nat × AV)) (bs : List (List AV)) : Option Out :=
  match parts 0 ps with
  | none => none
  | some l => some ⟨if mt = true then .bsl L e d.size len else .row e d.size len l, bs, if mt = true then [l] else [], decide (0 < d.size) && decide (ps.length = len) && decide (l.length = len * d.size) && decide (len * d.size ≤ 1000000) && ones l && AV.flats l && ps.all fun p => decide ((cells p.2).length = d.size)⟩
def cMake (L : Nat) (bs : List (List AV)) (c : List AV) (ok : Bool) : Option Out := some ⟨.ptr L 0, bs, [c], ok⟩
/-- A new slice that has nothing, with some room. -/
def cMakeSlice (e : Nat) (d : TD) (n c : AV) (bs : List (List AV)) : Option Out :=
  match n with
  | .int _ n =>
    match c with
    | .int _ c => yesIf (.row e d.size 0 []) bs (decide (n = 0) && decide (0 ≤ c) && decide (c ≤ 100000) && decide (0 < d.size) && decide (d.size ≤ 100) && decide (d.bytes ≤ 1000))
    | _ => none
  | _ => none
def cPick (c a b : AV) (bs : List (List AV)) : Option Out :=
  match c with
  | .bool t => yes (if t = true then a.dem else b.dem) bs
  | _ => none
def cNil (x : AV) (bs : List (List AV)) : Option Out :=
  match x with
  | .ptr i o => yes (.ptr i o) bs
  | .el l => yes (.el l) bs
  | _ => none
def cNot (op : UnOp) (x : AV) (bs : List (List AV)) : Option Out :=
  match x with
  | .bool b => match op with
    | .not => yes (.bool !b) bs
    | _ => none
  | _ => none
def cConv (s t : Nat) (x : AV) (bs : List (List AV)) : Option Out :=
  match x with
  | .int _ n => yesIf (.int .i64 (IntKind.i64.wrap n)) bs (decide (s = 5) && decide (t = 3))
  | _ => none
def cBin (op : BinOp) (x y : AV) (bs : List (List AV)) : Option Out :=
  match bin op x y with
  | none => none
  | some (v, ok) => yesIf v bs ok
def cExtract (x : AV) (i : Nat) (bs : List (List AV)) : Option Out :=
  match x with
  | .tup l => match l[i]? with
    | some v => yes v bs
    | none => none
  | _ => none
def pvals (ρ : Operand → AV) : List (Nat × Operand) → List (Nat × AV)
  | [] => []
  | (i, x) :: r => (i, (ρ x).dem) :: pvals ρ r
def with1 {α β : Type} (x : Option α) (f : α → Option β) : Option β :=
  match x with
  | none => none
  | some a => f a
def core (cal : Cal) (T : Tab) (ad mt : Bool) (L : Nat) (ρ : Operand → AV) (bs : List (List AV)) (ids : List Nat) (ty : Nat) (op : Op) : Option Out :=
  match op with
  | .move x => yes (if ad = true then ρ x else (ρ x).dem) bs
  | .assign x => yes (ρ x) bs
  | .pick c a b => cPick (ρ c) (ρ a) (ρ b) bs
  | .alloc t => with1 (T t) fun d => cMake L bs d.zero true
  | .box t x => cMake L bs (cells (ρ x).dem) (ones (cells (ρ x).dem) && (ρ x).dem.flat)
  | .build t ps => with1 (T t) fun d => cBuild d (pvals ρ ps.toList) bs
  | .buildSlice t len ps => with1 (elT T t) fun q => cBuildSlice mt L q.1 q.2 len (pvals ρ ps.toList) bs
  | .makeSlice t n c => with1 (elT T t) fun q => cMakeSlice q.1 q.2 (ρ n) (ρ c) bs
  | .load t a => with1 (T t) fun d => cLoad d ad (ρ a) bs
  | .store t a x => with1 (T t) fun d => cStore T t d (ρ a) (ρ x) bs
  | .nilCheck x => cNil (ρ x) bs
  | .binOp op _ x y _ => cBin op (ρ x) (ρ y) bs
  | .unOp op _ x => cNot op (ρ x) bs
  | .convert s t x => cConv s t (ρ x) bs
  | .makeFunc fn first cap =>
    match fn with
    | .func f => if first.size = 0 then yes (.fn f (cap.toList.map fun x => (ρ x).dem)) bs else none
    | _ => none
  | .slice t x lo hi mx => if mx.isSome = true then none else cSlice T t (ρ x) (lo.map ρ) (hi.map ρ) bs
  | .fieldAddr t x f => with1 (T t) fun d => with1 (d.offs[f]?) fun q => cFieldAddr q (ρ x) bs
  | .field t x f => with1 (T t) fun d => with1 (d.offs[f]?) fun q => cField q (ρ x) bs
  | .indexAddr t x i => with1 (elT T t) fun q => cIndexAddr q.2 (ρ x) (ρ i) bs
  | .index t x i => cIndex t (ρ x) (ρ i) bs
  | .extract x i => cExtract (ρ x) i bs
  | .call c =>
    match c.callee with
    | .builtin b => cBuiltin T b (c.args.toList.map ρ) c.argTypes.toList bs
    | .value f => cCall cal ids L (ρ f) (c.args.toList.map ρ) bs
    | _ => none
  | _ => none
/-- Temporaries whose own slice goes over to another holder. -/
def tmpOf : Operand → List Nat
  | .tmp t => [t]
  | _ => []
def firstOf : List Operand → List Nat
  | x :: _ => tmpOf x
  | [] => []
def appOf (c : Call) : List Nat :=
  match c.callee with
  | .builtin b => match b with
    | .append => firstOf c.args.toList
    | _ => []
  | _ => []
def gives (ad : Bool) (op : Op) : List Nat :=
  match op with
  | .move x => if ad = true then tmpOf x else []
  | .assign x => tmpOf x
  | .store _ _ x => tmpOf x
  | .call c => appOf c
  | _ => []
/-- Slices of one's own that went over: their holders have them no more. -/
def give (tm : Tm) : List Nat → Tm
  | [] => tm
  | t :: r =>
    match get tm t with
    | .row _ _ n l => give (put tm t (.sl n l)) r
    | _ => give tm r
def setMany (bx : List (List AV)) : List Nat → List (List AV) → List (List AV)
  | i :: r, c :: cs => setMany (bx.set i c) r cs
  | _, _ => bx
def conts (bx : List (List AV)) : List Nat → Option (List (List AV))
  | [] => some []
  | i :: r => match bx[i]?, conts bx r with
    | some c, some cs => some (c :: cs)
    | _, _ => none
def putD (tm : Tm) (dst : Option Nat) (v : AV) : Tm :=
  match dst with
  | some d => put tm d v
  | none => tm
def fin (dst : Option Nat) (out : Out) (ids gv : List Nat) (σ : ASt) : ASt := ⟨putD (give σ.tm gv) dst out.v, setMany σ.bx ids out.bs ++ out.nw⟩
/-- How operations are taken: temporaries that take a row over; those whose slice is to be a box; how many boxes were handed in. -/
structure Md where
  ad : List Nat
  arr : List Nat
  base : Nat
def isAd (ad : List Nat) : Option Nat → Bool
  | some d => mem d ad
  | none => false
def aOp1 (cal : Cal) (T : Tab) (ad mt : Bool) (o : Oper) (σ : ASt) (ids : List Nat) : Option ASt :=
  match conts σ.bx ids with
  | none => none
  | some cs =>
    match core cal T ad mt σ.bx.length (val σ.tm) cs ids o.type o.op with
    | none => none
    | some out => if out.ok = true then some (fin o.dst out ids (gives ad o.op) σ) else none
def aOp (cal : Cal) (T : Tab) (md : Md) (o : Oper) (σ : ASt) : Option ASt := aOp1 cal T (isAd md.ad o.dst) (isAd md.arr o.dst) o σ (touch (val σ.tm) σ.bx o.op)
def adOf : List Oper → List Nat
  | [] => []
  | o :: r =>
    match o.op with
    | .call c => appOf c ++ adOf r
    | _ => adOf r
/-- An operation that is passed over. -/
def skipd (o : Oper) (σ : ASt) : ASt := ⟨putD σ.tm o.dst (.tup []), σ.bx⟩
/-- What a guard says: some true: it goes; some false: it is passed over. -/
def goesG (all : List Oper) (o : Oper) (σ : ASt) : Option Bool :=
  match o.guard with
  | none => some true
  | some (j, want) =>
    match (all[j]?).bind (·.dst) with
    | none => none
    | some t => match get σ.tm t with
      | .bool b => some (b == want)
      | .tup [] => some false
      | _ => none
/-- An operation with its guard. -/
def aOpG (cal : Cal) (T : Tab) (md : Md) (all : List Oper) (o : Oper) (σ : ASt) : Option ASt :=
  match goesG all o σ with
  | none => none
  | some true => aOp cal T md o σ
  | some false => some (skipd o σ)
/-- The boxes that it touches. -/
def touchG (all : List Oper) (o : Oper) (σ : ASt) : List Nat :=
  match goesG all o σ with
  | some true => touch (val σ.tm) σ.bx o.op
  | _ => []
/-! ### Append to what is a box -/
/-- Nothing points to a box any more. -/
def killV (i : Nat) (v : AV) : AV :=
  match mem i v.ids with
  | true => .bad
  | false => v
def kill (i : Nat) (σ : ASt) : ASt := ⟨σ.tm.map fun p => (p.1, killV i p.2), σ.bx.map fun c => c.map (killV i)⟩
def appArgs (c : Call) : Option (Operand × Operand × Nat) :=
  match c.callee with
  | .builtin b =>
    match b with
    | .append =>
      match c.args.toList with
      | [x, y] => match c.argTypes.toList with
        | [t, t'] => if t' = t then some (x, y, t) else none
        | _ => none
      | _ => none
    | _ => none
  | _ => none
def aApp (T : Tab) (md : Md) (d : Nat) (σ : ASt) (x y : Operand) (t : Nat) : Option ASt :=
  match elT T t with
  | none => none
  | some (e, q) =>
    match elems (val σ.tm y) with
    | none => none
    | some (m, k) =>
      if 0 < m ∧ k.length = m * q.size ∧ 0 < q.size ∧ q.bytes ≤ 1000 ∧ ones k = true ∧ AV.flats k = true then
        match val σ.tm x with
        | .nil => if m ≤ 100000000 then some ⟨put σ.tm d (.bsl σ.bx.length e q.size m), σ.bx ++ [k]⟩ else none
        | .row e' z' 0 [] => if m ≤ 100000000 ∧ e' = e ∧ z' = q.size then some ⟨put (give σ.tm (tmpOf x)) d (.bsl σ.bx.length e q.size m), σ.bx ++ [k]⟩ else none
        | .bsl i e' z' n =>
          match σ.bx[i]? with
          | none => none
          | some c =>
            if md.base ≤ i ∧ e' = e ∧ z' = q.size ∧ n + m ≤ 100000000 ∧ c.length = n * q.size ∧ mem i (AV.idss (c ++ k)) = false ∧ AV.flats c = true then
              some ⟨put (kill i σ).tm d (.bsl i e q.size (n + m)), (kill i σ).bx.set i (c ++ k)⟩
            else none
        | _ => none
      else none
/-- An operation, where operations go in their order. -/
def aOpX (cal : Cal) (T : Tab) (md : Md) (all : List Oper) (o : Oper) (σ : ASt) : Option ASt :=
  match o.op with
  | .call c =>
    match appArgs c with
    | some (x, y, t) =>
      match o.dst with
      | some d => match mem d md.arr with
        | true => match o.guard with
          | none => aApp T md d σ x y t
          | some _ => none
        | false => aOpG cal T md all o σ
      | none => aOpG cal T md all o σ
    | none => aOpG cal T md all o σ
  | _ => aOpG cal T md all o σ
def runOps (cal : Cal) (T : Tab) (all : List Oper) (md : Md) : List Oper → ASt → Option ASt
  | [], σ => some σ
  | o :: r, σ =>
    match aOpX cal T md all o σ with
    | none => none
    | some σ' => runOps cal T all md r σ'
end Ab
end Go.Proofs.YtlmjabnkjmfcmaaGreat
/- A run on abstract values: code, and calls. -/
namespace Go.Proofs.YtlmjabnkjmfcmaaGreat
open Go Go.RowKit Go.PlainAid
set_option linter.unusedVariables false
namespace Ab
/-! ### A region whose operations may go in more than one order -/
def predsOf (o : Oper) : List Nat := o.after.toList.filterMap fun e => if Region.binds .any e then some e.on else none
def maskOf (acc : List Nat) : List Nat → Nat
  | [] => 0
  | i :: r => (2 ^ i ||| acc.getD i 0) ||| maskOf acc r
/-- Of each operation: all that must stand ahead of it, as bits. -/
def ancs : List Nat → List Oper → List Nat
  | acc, [] => acc
  | acc, o :: r => ancs (acc ++ [maskOf acc (predsOf o)]) r
def tmpsOf (o : Oper) : List Nat := o.op.operands.toList.filterMap fun x => match x with | .tmp t => some t | _ => none
/-- Temporaries that an operation reads, writes. -/
def rkOf (all : List Oper) (o : Oper) : List Nat := tmpsOf o ++ (match o.guard with | some (j, _) => ((all[j]?).bind (·.dst)).toList | none => [])
def wkOf (ad : List Nat) (o : Oper) : List Nat := o.dst.toList ++ gives (isAd ad o.dst) o.op
def meets (a b : List Nat) : Bool := a.any fun x => mem x b
def clashK (all : List Oper) (ad : List Nat) (a b : Oper) : Bool := meets (wkOf ad a) (rkOf all b) || meets (wkOf ad a) (wkOf ad b) || meets (wkOf ad b) (rkOf all a)
def keysOk (all : List Oper) : Bool :=
  ((List.range all.length).all fun j => match all[j]? with
    | some o => (predsOf o).all fun i => decide (i < j)
    | none => false) &&
  (List.range all.length).all fun j => (List.range j).all fun i => ((ancs [] all).getD j 0).testBit i || match all[i]?, all[j]? with
    | some a, some b => !clashK all (adOf all) a b
    | _, _ => false
/-! ### Two values are the same -/
mutual
def beq : AV → AV → Bool
  | .bool a, .bool b => a == b
  | .int k a, .int k' b => decide (k = k') && decide (a = b)
  | .str a, .str b => decide (a = b)
  | .ptr i o, .ptr i' o' => Nat.beq i i' && Nat.beq o o'
  | .nil, .nil => true
  | .sl n l, .sl n' l' => Nat.beq n n' && beqs l l'
  | .row e z n l, .row e' z' n' l' => Nat.beq e e' && Nat.beq z z' && Nat.beq n n' && beqs l l'
  | .el l, .el l' => beqs l l'
  | .agg l, .agg l' => beqs l l'
  | .tup l, .tup l' => beqs l l'
  | .fn f l, .fn f' l' => Nat.beq f f' && beqs l l'
  | .nz k, .nz k' => decide (k = k')
  | .unk k, .unk k' => decide (k = k')
  | .low k d m, .low k' d' m' => decide (k = k') && decide (d = d') && decide (m = m')
  | .bsl i e z n, .bsl i' e' z' n' => Nat.beq i i' && Nat.beq e e' && Nat.beq z z' && Nat.beq n n'
  | .bad, .bad => true
  | _, _ => false
def beqs : List AV → List AV → Bool
  | [], [] => true
  | x :: l, y :: r => beq x y && beqs l r
  | _, _ => false
end
def beqb : List (List AV) → List (List AV) → Bool
  | [], [] => true
  | x :: l, y :: r => beqs x y && beqb l r
  | _, _ => false
def beqt : Tm → Tm → Bool
  | [], [] => true
  | (k, x) :: l, (j, y) :: r => Nat.beq k j && beq x y && beqt l r
  | _, _ => false
def beqσ (a b : ASt) : Bool := beqt a.tm b.tm && beqb a.bx b.bx
/-- Boxes that an operation touched, new ones among them; does it turn them; did it make some; a plain load's box and cells; what it turned, as that stood and stands. -/
structure AcC where
  at_ : Nat
  ids : List Nat
  wr : Bool
  al : Bool
  ld : Option (Nat × Nat × Nat)
  ch : List (Nat × List AV × List AV)
def wrOf (ad : List Nat) (o : Oper) : Bool :=
  match o.op with
  | .load _ _ => isAd ad o.dst
  | _ => true
/-- The cells that a load reads, whatever else stands in its box. -/
def ldOf (T : Tab) (ad : List Nat) (all : List Oper) (o : Oper) (σ : ASt) : Option (Nat × Nat × Nat) :=
  match goesG all o σ with
  | some true =>
    match o.op with
    | .load t a =>
      match isAd ad o.dst with
      | true => none
      | false =>
        match val σ.tm a with
        | .ptr i c =>
          match T t with
          | some d => some (i, c, if d.agg = true then d.size else 1)
          | none => none
        | _ => none
    | _ => none
  | _ => none
def chOf (σ σ' : ASt) : List Nat → List (Nat × List AV × List AV)
  | [] => []
  | i :: r => (i, σ.bx.getD i [], σ'.bx.getD i []) :: chOf σ σ' r
def news (n m : Nat) : List Nat := List.range' n (m - n)
def accO (T : Tab) (ad : List Nat) (all : List Oper) (k : Nat) (o : Oper) (σ σ' : ASt) : AcC :=
  ⟨k, touchG all o σ ++ news σ.bx.length σ'.bx.length, wrOf ad o, !Nat.ble σ'.bx.length σ.bx.length, ldOf T ad all o σ, if wrOf ad o = true then chOf σ σ' (touchG all o σ) else []⟩
/-- A load of cells that the other leaves as they stand. -/
def AcC.mild (a b : AcC) : Bool :=
  match a.ld with
  | some (i, o, n) =>
    match assoc b.ch i with
    | some (c, c') => Nat.beq c.length c'.length && beqs ((c.drop o).take n) ((c'.drop o).take n)
    | none => false
  | none => false
def AcC.clash (a b : AcC) : Bool := ((a.wr || b.wr) && meets a.ids b.ids && !(a.mild b || b.mild a)) || (a.al && b.al)
def noted (a : AcC) (l : List AcC) : List AcC := if a.ids.isEmpty && !a.al then l else a :: l
def runAcc (cal : Cal) (T : Tab) (all : List Oper) (md : Md) : List (Nat × Oper) → ASt → Option (List AcC × ASt)
  | [], σ => some ([], σ)
  | (k, o) :: r, σ =>
    match aOpG cal T md all o σ with
    | none => none
    | some σ' =>
      match runAcc cal T all md r σ' with
      | none => none
      | some (l, σ'') => some (noted (accO T md.ad all k o σ σ') l, σ'')
/-- Two operations whose order does not matter otherwise. -/
def isTwo (two : Option (Nat × Nat)) (a b : Nat) : Bool :=
  match two with
  | some (p, q) => (Nat.beq a p && Nat.beq b q) || (Nat.beq a q && Nat.beq b p)
  | none => false
def pairsOk (an : List Nat) (two : Option (Nat × Nat)) : List AcC → Bool
  | [] => true
  | a :: l => (l.all fun b => (an.getD b.at_ 0).testBit a.at_ || !a.clash b || isTwo two a.at_ b.at_) && pairsOk an two l
def numbered (k : Nat) : List Oper → List (Nat × Oper)
  | [] => []
  | o :: r => (k, o) :: numbered (k + 1) r
def runDraw (cal : Cal) (T : Tab) (md : Md) (all : List Oper) (σ : ASt) : Option ASt :=
  match runAcc cal T all md (numbered 0 all) σ with
  | some (accs, σ') => if pairsOk (ancs [] all) none accs = true then some σ' else none
  | none => none
def dropN (q : Nat) : List (Nat × Oper) → List (Nat × Oper)
  | [] => []
  | (k, o) :: r =>
    match Nat.beq k q with
    | true => dropN q r
    | false => (k, o) :: dropN q r
/-- Two operations make boxes, in whichever order: both are run. -/
def runDraw2 (cal : Cal) (T : Tab) (md : Md) (all : List Oper) (p q : Nat) (σ : ASt) : Option (ASt × ASt) :=
  match all[q]? with
  | none => none
  | some oq =>
    match runAcc cal T all md (numbered 0 all) σ with
    | none => none
    | some (A, σa) =>
      match runAcc cal T all md ((q, oq) :: dropN q (numbered 0 all)) σ with
      | none => none
      | some (B, σb) => if Nat.blt p q = true ∧ (predsOf oq).isEmpty = true ∧ pairsOk (ancs [] all) (some (p, q)) A = true ∧ pairsOk (ancs [] all) (some (p, q)) B = true then some (σa, σb) else none
/-! ### Code -/
inductive AEx where
  | normal
  | exit (i : Nat)
  | ret
def prune (ks : List Nat) : Tm → Tm
  | [] => []
  | (k, v) :: r => if mem k ks = true then (k, v) :: prune ks r else prune ks r
/-- The first boxes, and what can be reached from some. -/
def keepIds (n : Nat) (bx : List (List AV)) (l : List Nat) : List Nat := reach 1000000 bx (AV.idss ((bx.take n).flatMap id) ++ l) (List.range n)
/-- Boxes that nothing points to are let go. -/
def pick (n : Nat) (bx : List (List AV)) (l : List Nat) : Option (List Nat × List (List AV)) :=
  match conts bx (keepIds n bx l) with
  | none => none
  | some cs => if (cs.all fun c => subs (AV.idss c) (keepIds n bx l)) = true ∧ subs l (keepIds n bx l) = true then some (keepIds n bx l, cs.map (AV.rens (keepIds n bx l).idxOf)) else none
def tmIds : Tm → List Nat
  | [] => []
  | (_, v) :: r => v.ids ++ tmIds r
def tmRen (f : Nat → Nat) : Tm → Tm
  | [] => []
  | (k, v) :: r => (k, v.ren f) :: tmRen f r
/-- Boxes that a round has made, and that nothing points to, are let go. -/
def back (n : Nat) (σ : ASt) : Option ASt :=
  match pick n σ.bx (tmIds σ.tm) with
  | none => none
  | some (ids, bx) => some ⟨tmRen ids.idxOf σ.tm, bx⟩
/-- How a function is taken: what temporaries are wanted behind a region; those whose slice is to be a box; is the result frozen? regions in which two operations make boxes in whichever order; temporaries that take a row over. -/
structure Ann where
  live : List (List Nat)
  arr : List Nat
  frz : Bool
  two : List (Nat × Nat × Nat)
  adl : List Nat
def prunes (an : Ann) (i : Nat) (σ : ASt) : ASt := ⟨prune (an.live.getD i []) σ.tm, σ.bx⟩
/-- A region. -/
def runReg (cal : Cal) (T : Tab) (an : Ann) (base i : Nat) (ops : Array Oper) (draw : Bool) (σ : ASt) : Option ASt :=
  match draw with
  | false => (runOps cal T ops.toList ⟨adOf ops.toList ++ an.adl, an.arr, base⟩ ops.toList σ).map (prunes an i)
  | true =>
    match assoc an.two i with
    | none => (runDraw cal T ⟨adOf ops.toList, an.arr, base⟩ ops.toList σ).map (prunes an i)
    | some (p, q) =>
      match runDraw2 cal T ⟨adOf ops.toList, an.arr, base⟩ ops.toList p q σ with
      | none => none
      | some (σa, σb) =>
        match back σ.bx.length (prunes an i σa), back σ.bx.length (prunes an i σb) with
        | some τ, some τ' => if beqσ τ τ' = true then some τ else none
        | _, _ => none
def aCode (cal : Cal) (T : Tab) (an : Ann) (base : Nat) : Nat → Code → ASt → Option (AEx × ASt)
  | 0, _, _ => none
  | n + 1, c, σ =>
    match c with
    | .skip => some (.normal, σ)
    | .region i ops draw =>
      match runReg cal T an base i ops draw σ with
      | some σ' => some (.normal, σ')
      | none => none
    | .seq a b =>
      match aCode cal T an base n a σ with
      | some (.normal, σ') => aCode cal T an base n b σ'
      | r => r
    | .cond x a b =>
      match val σ.tm x with
      | .bool t => aCode cal T an base n (if t = true then a else b) σ
      | _ => none
    | .block i a =>
      match aCode cal T an base n a σ with
      | some (.exit j, σ') => some (if j = i then .normal else .exit j, σ')
      | r => r
    | .loop a =>
      match aCode cal T an base n a σ with
      | some (.normal, σ') =>
        match back σ.bx.length σ' with
        | some σ'' => aCode cal T an base n (.loop a) σ''
        | none => none
      | r => r
    | .exit i => some (.exit i, σ)
    | .ret => some (.ret, σ)
    | _ => none
/-- What is looked at once for all: no temporary that is written lies beyond; no two operations of a region that may go either way share one. -/
def good (n : Nat) : Code → Bool
  | .region _ ops draw => (ops.toList.all fun o => match o.dst with
    | some d => decide (d < n)
    | none => true) && (!draw || keysOk ops.toList)
  | .seq a b => good n a && good n b
  | .cond _ a b => good n a && good n b
  | .block _ a => good n a
  | .loop a => good n a
  | _ => true
def aRes1 (T : Tab) (n : Nat) (σ : ASt) : ResultVar → Option AV
  | .tmp t => some (get σ.tm t)
  | .cell a t => with1 (T t) fun d =>
    match get σ.tm a with
    | .ptr i o => with1 (σ.bx[i]?) fun c =>
      if d.agg = true then (if o + d.size ≤ c.length then some (.agg (((c.drop o).take d.size).map AV.dem)) else none) else (c[o]?).map AV.dem
    | _ => none
def aRess (T : Tab) (n : Nat) (σ : ASt) : List ResultVar → Option (List AV)
  | [] => some []
  | r :: l => match aRes1 T n σ r, aRess T n σ l with
    | some v, some vs => some (v :: vs)
    | _, _ => none
def aRet (vs : List AV) : AV :=
  match vs with
  | [v] => v
  | vs => .tup (vs.map AV.dem)
def mapO (g : AV → Option AV) : List AV → Option (List AV)
  | [] => some []
  | x :: l =>
    match g x, mapO g l with
    | some y, some r => some (y :: r)
    | _, _ => none
/-- What stands in boxes from n on is never turned again. -/
def frzV (bx : List (List AV)) (n : Nat) : Nat → AV → Option AV
  | 0, _ => none
  | k + 1, v =>
    match v.pf with
    | true => some v
    | false =>
      match v with
      | .bsl j _ z m =>
        match bx[j]? with
        | some c => if n ≤ j ∧ m * z ≤ c.length then (mapO (frzV bx n k) ((c.take (m * z)).map AV.dem)).map (.sl m) else none
        | none => none
      | .agg l => (mapO (frzV bx n k) l).map .agg
      | .tup l => (mapO (frzV bx n k) l).map .tup
      | .sl m l => (mapO (frzV bx n k) l).map (.sl m)
      | _ => none
/-- What is handed back, and the boxes that were handed in, and new ones that can be reached. -/
def aEnd (T : Tab) (frz : Bool) (σ : ASt) (l : List ResultVar) (n : Nat) : Option (AV × List (List AV)) :=
  match aRess T n σ l with
  | none => none
  | some vs =>
    match frz with
    | true =>
      match frzV σ.bx n 1000 (aRet vs) with
      | some v => if n ≤ σ.bx.length ∧ ((σ.bx.take n).all AV.pfs) = true then some (v, σ.bx.take n) else none
      | none => none
    | false =>
      match pick n σ.bx (aRet vs).ids with
      | some (ids, bx) => some ((aRet vs).ren ids.idxOf, bx)
      | none => none
def params : Tm → Nat → List AV → Tm
  | tm, _, [] => tm
  | tm, k, v :: l => params ((k, v) :: tm) (k + 1) l
/-- A call of a function by its own code. -/
def aFun (cal : Cal) (T : Tab) (an : Ann) (n : Nat) (fn : Func) (args : List AV) (bxs : List (List AV)) : Option (AV × List (List AV)) :=
  match fn.body with
  | none => none
  | some c =>
    match aCode cal T an bxs.length n c ⟨params [] 0 args, bxs⟩ with
    | some (.normal, σ) => aEnd T an.frz σ fn.results.toList bxs.length
    | some (.ret, σ) => aEnd T an.frz σ fn.results.toList bxs.length
    | _ => none
/-- What is known of a program: types; functions; what temporaries are wanted behind a region; functions that are known otherwise. -/
structure Know where
  T : Tab
  fns : Nat → Option Func
  ann : Nat → Ann
  prim : Nat → Option (List AV → Option AV)
  semi : Nat → Option (Cal → List AV → List (List AV) → Option (AV × List (List AV)))
def aCall (K : Know) : Nat → Cal
  | 0, _, _, _ => none
  | n + 1, f, args, bxs =>
    match K.prim f with
    | some g =>
      match g args with
      | none => none
      | some v => if v.pf = true ∧ v.flat = true ∧ bxs.isEmpty = true then some (v, bxs) else none
    | none =>
      match K.semi f with
      | some g => g (aCall K n) args bxs
      | none =>
        match K.fns f with
        | some fn => aFun (aCall K n) K.T (K.ann f) n fn args bxs
        | none => none
end Ab
end Go.Proofs.YtlmjabnkjmfcmaaGreat
/- A run on abstract values: what a world holds of a state. -/
namespace Go.Proofs.YtlmjabnkjmfcmaaGreat
open Go Go.RowKit Go.PlainAid
set_option linter.unusedVariables false
namespace Ab
theorem beq_ne {n k : Nat} (h : n ≠ k) : Nat.beq n k = false := by
  cases hb : Nat.beq n k with
  | false => rfl
  | true => exact absurd (Nat.eq_of_beq_eq_true hb) h
theorem beq_self (n : Nat) : Nat.beq n n = true := Nat.beq_refl n
theorem get_cons (k : Nat) (v : AV) (r : Tm) (n : Nat) : get ((k, v) :: r) n = if n = k then v else get r n := by
  rw [get]
  by_cases h : n = k
  · subst h; rw [beq_self, if_pos rfl]
  · rw [beq_ne h, if_neg h]
theorem put_cons (k : Nat) (u : AV) (r : Tm) (n : Nat) (v : AV) : put ((k, u) :: r) n v = if k < n then (n, v) :: (k, u) :: r else if n = k then (n, v) :: r else (k, u) :: put r n v := by
  rw [put]
  by_cases h1 : k < n
  · have : Nat.ble n k = false := by
      cases hb : Nat.ble n k with
      | false => rfl
      | true => have := Nat.le_of_ble_eq_true hb; omega
    rw [this, if_pos h1]
  · have : Nat.ble n k = true := Nat.ble_eq_true_of_le (by omega)
    rw [this, if_neg h1]
    by_cases h : n = k
    · subst h; rw [beq_self, if_pos rfl]
    · rw [beq_ne h, if_neg h]
theorem get_put (tm : Tm) (d : Nat) (v : AV) (n : Nat) : get (put tm d v) n = if n = d then v else get tm n := by
  induction tm with
  | nil => rw [put, get_cons]
  | cons p r ih =>
    obtain ⟨k, u⟩ := p
    rw [put_cons]
    split
    · rw [get_cons]
    · split
      · rename_i h; subst h
        rw [get_cons]
        split
        · rfl
        · rename_i h; rw [get_cons, if_neg h]
      · rw [get_cons, ih, get_cons]
        split
        · rename_i h1 h2 h; subst h; rw [if_neg (fun e => h2 e.symm)]
        · rfl
theorem get_prune (ks : List Nat) (tm : Tm) (n : Nat) : get (prune ks tm) n = get tm n ∨ get (prune ks tm) n = .bad := by
  induction tm with
  | nil => exact .inl rfl
  | cons p r ih =>
    obtain ⟨k, u⟩ := p
    rw [prune]
    split
    · rw [get_cons, get_cons]
      split
      · exact .inl rfl
      · exact ih
    · rename_i hm
      rw [get_cons]
      by_cases h : n = k
      · subst h
        right
        have : ∀ r : Tm, get (prune ks r) n = .bad := by
          intro r
          induction r with
          | nil => rfl
          | cons q r ih2 =>
            obtain ⟨k2, u2⟩ := q
            rw [prune]
            split
            · rename_i h2
              rw [get_cons]
              split
              · rename_i e; subst e; exact absurd h2 hm
              · exact ih2
            · exact ih2
        exact this r
      · rw [if_neg h]; exact ih
/-- Where something stands: a temporary, a cell of a box. -/
inductive Loc where
  | t (k : Nat)
  | b (i j : Nat)
abbrev Slots := Nat → AV × Value
def Sl (tm : Tm) (a : Act) : Slots := fun k => (get tm k, a.tmps.getD k undef)
def up (S : Slots) (d : Nat) (x : AV × Value) : Slots := fun k => if k = d then x else S k
theorem Sl_put {tm : Tm} {a : Act} {d : Nat} (hd : d < a.tmps.size) (v : AV) (u : Value) : Sl (put tm d v) (a.put (some d) u) = up (Sl tm a) d (v, u) := by
  funext k
  unfold Sl up Act.put
  rw [get_put]
  by_cases h : k = d
  · subst h
    simp [hd]
  · simp [h, Ne.symm h]
/-- Whose row lies in a block. -/
def Own (w : World) (bs : List Nat) (bx : List (List AV)) (S : Slots) : Loc → Nat → Prop
  | .t k, g => (S k).1.isRow = true ∧ (S k).2.ownBlock = some g
  | .b i j, g => ∃ b x y v, bs[i]? = some b ∧ bx[i]? = some x ∧ x[j]? = some y ∧ y.isRow = true ∧ w.cell? ⟨b, j, none⟩ = some v ∧ v.ownBlock = some g
/-- A world holds boxes and slots; m: the blocks that may be turned. -/
structure Hold (lim : Nat → Nat) (bs : List Nat) (w : World) (bx : List (List AV)) (S : Slots) (m : Nat → Prop) : Prop where
  len : bs.length = bx.length
  nod : bs.Nodup
  free : ∀ b ∈ bs, lim b = 0
  mb : ∀ b ∈ bs, m b
  box : ∀ (i b : Nat) (x : List AV), bs[i]? = some b → bx[i]? = some x → ∃ (c tl : List Value) (t : TypeId), w.heap[b]? = some (Obj.cells (c ++ tl).toArray t (0, 0)) ∧ AV.Rs lim bs w x c ∧ x.all AV.top = true
  slot : ∀ k, AV.R lim bs w (S k).1 (S k).2
  slotT : ∀ k, (S k).1.top = true
  top : ∀ b, w.heap.size ≤ b → lim b = 0
  own : ∀ (p : Loc) (g : Nat), Own w bs bx S p g → m g ∧ g ∉ bs
  dist : ∀ (p q : Loc) (g : Nat), Own w bs bx S p g → Own w bs bx S q g → p = q
/-- What has been turned since a world was met: nothing but what may be. -/
structure Fr (m : Nat → Prop) (lim0 : Nat → Nat) (w0 : World) (lim : Nat → Nat) (w : World) : Prop where
  bel : Below 0 w0 w
  keep : ∀ b, b < w0.heap.size → ¬ m b → w.heap[b]? = w0.heap[b]? ∧ lim b = lim0 b
  le : ∀ b, b < w0.heap.size → lim0 b ≤ lim b
  cell : ∀ b j, b < w0.heap.size → j < lim0 b → w.cell? ⟨b, j, none⟩ = w0.cell? ⟨b, j, none⟩
  shape : ∀ (b : Nat) (cur : Array Value) (e : TypeId) (p : Nat × Nat), w0.heap[b]? = some (Obj.cells cur e p) → ∃ cur' : Array Value, w.heap[b]? = some (.cells cur' e p) ∧ cur'.size = cur.size
variable {m m' : Nat → Prop} {lim lim0 lim1 lim' : Nat → Nat} {bs bs' : List Nat} {w w0 w1 w' : World} {bx bx' : List (List AV)} {S S' : Slots}
theorem Fr.refl : Fr m lim w lim w := ⟨Below.refl _ _, fun _ _ _ => ⟨rfl, rfl⟩, fun _ _ => Nat.le_refl _, fun _ _ _ _ => rfl, fun b cur e p h => ⟨cur, h, rfl⟩⟩
theorem Fr.trans (h : Fr m lim0 w0 lim1 w1) (k : Fr m lim1 w1 lim w) : Fr m lim0 w0 lim w := by
  refine ⟨h.bel.trans k.bel, fun b hb hm => ?_, fun b hb => ?_, fun b j hb hj => ?_, fun b cur e p hb => ?_⟩
  · have hb1 := Nat.lt_of_lt_of_le hb h.bel.size
    have h1 := h.keep b hb hm
    have h2 := k.keep b hb1 hm
    exact ⟨h2.1.trans h1.1, h2.2.trans h1.2⟩
  · exact Nat.le_trans (h.le b hb) (k.le b (Nat.lt_of_lt_of_le hb h.bel.size))
  · exact (k.cell b j (Nat.lt_of_lt_of_le hb h.bel.size) (Nat.lt_of_lt_of_le hj (h.le b hb))).trans (h.cell b j hb hj)
  · obtain ⟨c1, e1, s1⟩ := h.shape b cur e p hb
    obtain ⟨c2, e2, s2⟩ := k.shape b c1 e p e1
    exact ⟨c2, e2, s2.trans s1⟩
theorem Fr.ext (h : Fr m lim w lim' w') (hb : ∀ (i b : Nat), bs[i]? = some b → bs'[i]? = some b) : AV.Ext lim bs w lim' bs' w' := ⟨hb, h.bel.size, h.le, h.cell, h.shape⟩
theorem Fr.weak (h : Fr m' lim0 w0 lim w) (hm : ∀ b, b < w0.heap.size → m' b → m b) : Fr m lim0 w0 lim w :=
  ⟨h.bel, fun b hb hn => h.keep b hb (fun e => hn (hm b hb e)), h.le, h.cell, h.shape⟩
theorem R_bad (v : Value) : AV.R lim bs w .bad v := by rw [AV.R]; trivial
theorem Own.ex {i j g : Nat} (h : Own w bs bx S (.b i j) g) : Own w bs bx S' (.b i j) g := h
/-- A slot is known less well, or as one that all may read. -/
theorem Hold.sub (H : Hold lim bs w bx S m) (h : ∀ k, (S' k).2 = (S k).2 ∧ ((S' k).1 = (S k).1 ∨ (S' k).1 = (S k).1.dem ∨ (S' k).1 = .bad)) : Hold lim bs w bx S' m ∧ ∀ p g, Own w bs bx S' p g → Own w bs bx S p g := by
  have hr : ∀ x : AV, x.dem.isRow = false := fun x => by cases x <;> rfl
  have ho : ∀ p g, Own w bs bx S' p g → Own w bs bx S p g := by
    intro p g hp
    cases p with
    | b i j => exact hp
    | t k =>
      obtain ⟨h1, h2⟩ := hp
      obtain ⟨e, h3⟩ := h k
      rcases h3 with h3 | h3 | h3
      · exact ⟨by rw [← h3]; exact h1, by rw [← e]; exact h2⟩
      · rw [h3, hr] at h1; cases h1
      · rw [h3] at h1; cases h1
  refine ⟨⟨H.len, H.nod, H.free, H.mb, H.box, fun k => ?_, fun k => ?_, H.top, fun p g hp => H.own p g (ho p g hp), fun p q g hp hq => H.dist p q g (ho p g hp) (ho q g hq)⟩, ho⟩
  · obtain ⟨e, h3⟩ := h k
    rw [e]
    rcases h3 with h3 | h3 | h3 <;> rw [h3]
    · exact H.slot k
    · exact (H.slot k).dem
    · exact R_bad _
  · obtain ⟨e, h3⟩ := h k
    rcases h3 with h3 | h3 | h3 <;> rw [h3]
    · exact H.slotT k
    · unfold AV.top; rw [AV.R.dem_flat (H.slotT k) (H.slot k)]; simp
    · rfl
/-- A new value in a slot. -/
theorem Hold.put (H : Hold lim bs w bx S m) {d : Nat} {v : AV} {u : Value} (hv : AV.R lim bs w v u) (ht : v.top = true)
    (hrow : ∀ g, v.isRow = true → u.ownBlock = some g → m g ∧ g ∉ bs ∧ ∀ p, Own w bs bx S p g → p = .t d) : Hold lim bs w bx (up S d (v, u)) m := by
  have ho : ∀ p g, Own w bs bx (up S d (v, u)) p g → (p = .t d ∧ v.isRow = true ∧ u.ownBlock = some g) ∨ (p ≠ .t d ∧ Own w bs bx S p g) := by
    intro p g hp
    cases p with
    | b i j => exact .inr ⟨by simp, hp⟩
    | t k =>
      obtain ⟨h1, h2⟩ := hp
      unfold up at h1 h2
      by_cases e : k = d
      · rw [if_pos e] at h1 h2
        exact .inl ⟨by rw [e], h1, h2⟩
      · rw [if_neg e] at h1 h2
        exact .inr ⟨by simpa using e, h1, h2⟩
  refine ⟨H.len, H.nod, H.free, H.mb, H.box, fun k => ?_, fun k => ?_, H.top, fun p g hp => ?_, fun p q g hp hq => ?_⟩
  · unfold up; split
    · exact hv
    · exact H.slot k
  · unfold up; split
    · exact ht
    · exact H.slotT k
  · rcases ho p g hp with ⟨-, h1, h2⟩ | ⟨-, h1⟩
    · exact ⟨(hrow g h1 h2).1, (hrow g h1 h2).2.1⟩
    · exact H.own p g h1
  · rcases ho p g hp with ⟨e1, h1, h2⟩ | ⟨e1, h1⟩
    · rcases ho q g hq with ⟨e2, -, -⟩ | ⟨e2, h3⟩
      · rw [e1, e2]
      · exact absurd ((hrow g h1 h2).2.2 q h3) e2
    · rcases ho q g hq with ⟨e2, h3, h4⟩ | ⟨e2, h3⟩
      · exact absurd ((hrow g h3 h4).2.2 p h1) e1
      · exact H.dist p q g h1 h3
theorem heap_cell4 {w : World} {b off : Nat} {cs : List Value} {t : TypeId} (hb : w.heap[b]? = some (.cells cs.toArray t (0, 0))) : w.cell? ⟨b, off, none⟩ = cs[off]? := by
  simp [World.cell?, hb]
theorem heap_cellP {w : World} {b off : Nat} {cs tl : List Value} {t : TypeId} {v : Value} (hb : w.heap[b]? = some (.cells (cs ++ tl).toArray t (0, 0))) (hv : cs[off]? = some v) : w.cell? ⟨b, off, none⟩ = some v := by
  rw [heap_cell4 hb, List.getElem?_append_left (List.getElem?_eq_some_iff.1 hv).1]; exact hv
theorem lt_of_heap {w : World} {i : Nat} {x : Obj} (h : w.heap[i]? = some x) : i < w.heap.size := by
  rcases Nat.lt_or_ge i w.heap.size with h' | h'
  · exact h'
  · simp [Array.getElem?_eq_none h'] at h
/-- A row's block, read off what it is. -/
theorem R_row_block {x : AV} {v : Value} {g : Nat} (h : AV.R lim bs w x v) (hr : x.isRow = true) (hg : v.ownBlock = some g) : g < w.heap.size := by
  cases x <;> simp only [AV.isRow, Bool.false_eq_true] at hr
  rw [AV.R] at h
  obtain ⟨-, -, h3⟩ := h
  rcases h3 with ⟨rfl, -⟩ | ⟨g', c, cur, rfl, hb, -⟩
  · cases hg
  · cases hg; exact lt_of_heap hb
theorem Rs_get : ∀ {x : List AV} {c : List Value} {j : Nat} {y : AV}, AV.Rs lim bs w x c → x[j]? = some y → ∃ v, c[j]? = some v ∧ AV.R lim bs w y v
  | [], c, j, y, _, hy => by simp at hy
  | z :: x, c, 0, y, h, hy => by
    rw [AV.Rs] at h
    obtain ⟨v, r, rfl, h1, -⟩ := h
    simp at hy; subst hy
    exact ⟨v, rfl, h1⟩
  | z :: x, c, j + 1, y, h, hy => by
    rw [AV.Rs] at h
    obtain ⟨v, r, rfl, -, h2⟩ := h
    simp at hy
    obtain ⟨v', h3, h4⟩ := Rs_get h2 hy
    exact ⟨v', by simpa using h3, h4⟩
theorem Own.lt (H : Hold lim bs w bx S m) {p : Loc} {g : Nat} (h : Own w bs bx S p g) : g < w.heap.size := by
  cases p with
  | t k => exact R_row_block (H.slot k) h.1 h.2
  | b i j =>
    obtain ⟨b, x, y, v, h1, h2, h3, h4, h5, h6⟩ := h
    obtain ⟨c, tl, t, hb, hx, -⟩ := H.box i b x h1 h2
    obtain ⟨v', h7, h8⟩ := Rs_get hx h3
    rw [heap_cellP hb h7] at h5
    cases h5
    exact R_row_block h8 h4 h6
/-- Cells that are kept. -/
theorem Rs_keep (k : AV.Ext lim bs w lim' bs' w') : ∀ {x : List AV} {c : List Value}, x.all AV.top = true → (∀ (j : Nat) (y : AV) (v : Value) (g : Nat), x[j]? = some y → c[j]? = some v → y.isRow = true → v.ownBlock = some g → w'.heap[g]? = w.heap[g]? ∧ lim' g = lim g) → AV.Rs lim bs w x c → AV.Rs lim' bs' w' x c
  | [], c, _, _, h => by rw [AV.Rs] at h ⊢; exact h
  | z :: x, c, ht, hr, h => by
    rw [AV.Rs] at h ⊢
    obtain ⟨v, r, rfl, h1, h2⟩ := h
    rw [List.all_cons, Bool.and_eq_true] at ht
    refine ⟨v, r, rfl, AV.R.keep k ht.1 (fun g hg1 hg2 => hr 0 z v g rfl rfl hg1 hg2) h1, Rs_keep k ht.2 (fun j y v' g hy hv hg1 hg2 => hr (j + 1) y v' g (by simpa using hy) (by simpa using hv) hg1 hg2) h2⟩
/-- Behind something that turned no box and no row of ours. -/
theorem Hold.world (H : Hold lim bs w bx S m) (k : AV.Ext lim bs w lim' bs w') (hbox : ∀ b ∈ bs, w'.heap[b]? = w.heap[b]? ∧ lim' b = 0) (hrow : ∀ p g, Own w bs bx S p g → w'.heap[g]? = w.heap[g]? ∧ lim' g = lim g) (htop : ∀ b, w'.heap.size ≤ b → lim' b = 0) :
    Hold lim' bs w' bx S m ∧ ∀ p g, Own w' bs bx S p g → Own w bs bx S p g := by
  have hc : ∀ i b j, bs[i]? = some b → w'.cell? ⟨b, j, none⟩ = w.cell? ⟨b, j, none⟩ := fun i b j hi => World.cell?_of_block (hbox b (List.mem_of_getElem? hi)).1
  have ho : ∀ p g, Own w' bs bx S p g → Own w bs bx S p g := by
    intro p g hp
    cases p with
    | t k => exact hp
    | b i j =>
      obtain ⟨b, x, y, v, h1, h2, h3, h4, h5, h6⟩ := hp
      exact ⟨b, x, y, v, h1, h2, h3, h4, by rw [← hc i b j h1]; exact h5, h6⟩
  refine ⟨⟨H.len, H.nod, fun b hb => (hbox b hb).2, H.mb, fun i b x hi hx => ?_, fun k' => ?_, H.slotT, htop, fun p g hp => H.own p g (ho p g hp), fun p q g hp hq => H.dist p q g (ho p g hp) (ho q g hq)⟩, ho⟩
  · obtain ⟨c, tl, t, hb, hr, ht⟩ := H.box i b x hi hx
    refine ⟨c, tl, t, (hbox b (List.mem_of_getElem? hi)).1.trans hb, Rs_keep k ht (fun j y v g hy hv h1 h2 => hrow (.b i j) g ⟨b, x, y, v, hi, hx, hy, h1, heap_cellP hb hv, h2⟩) hr, ht⟩
  · exact AV.R.keep k (H.slotT k') (fun g h1 h2 => hrow (.t k') g ⟨h1, h2⟩) (H.slot k')
end Ab
end Go.Proofs.YtlmjabnkjmfcmaaGreat
/- A run on abstract values: what single operations do, as values. -/
namespace Go.Proofs.YtlmjabnkjmfcmaaGreat
open Go Go.RowKit Go.PlainAid
set_option linter.unusedVariables false
namespace Ab
variable {lim : Nat → Nat} {bs : List Nat} {w : World} {P : Program}
theorem toList_data (a : ByteArray) : a.toList = a.data.toList := by
  have key : ∀ (n i : Nat) (r : List UInt8), a.size - i = n → ByteArray.toList.loop a i r = r.reverse ++ a.data.toList.drop i := by
    intro n
    induction n with
    | zero =>
      intro i r h
      unfold ByteArray.toList.loop
      rw [if_neg (by omega)]
      have hl : a.data.toList.length ≤ i := by
        have : a.data.toList.length = a.size := Array.length_toList
        omega
      rw [List.drop_eq_nil_of_le hl, List.append_nil]
    | succ n ih =>
      intro i r h
      unfold ByteArray.toList.loop
      rw [if_pos (by omega), ih (i + 1) _ (by omega)]
      have hi : i < a.data.toList.length := by
        have : a.data.toList.length = a.size := Array.length_toList
        omega
      rw [List.drop_eq_getElem_cons hi]
      have hg : a.get! i = a.data.toList[i] := by
        have h2 : i < a.data.size := by simpa using hi
        simp only [ByteArray.get!, Array.getElem_toList]
        exact getElem!_pos a.data i h2
      rw [hg]
      simp
  have := key a.size 0 [] (by simp)
  unfold ByteArray.toList
  rw [this]; simp
theorem str_eq (a b : ByteArray) : (a.toList == b.toList) = decide (a = b) := by
  rw [Bool.eq_iff_iff, beq_iff_eq, decide_eq_true_eq, toList_data, toList_data]
  constructor
  · intro h
    cases a; cases b
    simp only [ByteArray.mk.injEq]
    exact Array.toList_inj.1 h
  · rintro rfl; rfl
theorem run_bin {op : BinOp} {t : TypeId} {ox oy : Operand} {x y v : AV} {vx vy : Value} {ok : Bool} (h : bin op x y = some (v, ok)) (hok : ok = true) (hx : AV.R lim bs w x vx) (hy : AV.R lim bs w y vy) :
    ∃ u, (do eqGuard op t ox oy vx vy; binOp op t vx vy).run P w = .ok u w ∧ AV.R lim bs w v u ∧ v.flat = true ∧ v.isRow = false := by
  unfold bin at h
  split at h
  · rename_i k a
    split at h
    · rename_i k' b
      split at h
      · rename_i hk
        subst hk
        rw [AV.R] at hx hy
        subst hx hy
        unfold binI at h
        cases op <;> simp only [Option.some.injEq, Prod.mk.injEq, reduceCtorEq] at h <;> obtain ⟨rfl, rfl⟩ := h <;>
          first
          | (refine ⟨_, ?_, by rw [AV.R], rfl, rfl⟩; simp [eqGuard, binOp, Op.intArith, Op.intCmp]; done)
          | (refine ⟨_, ?_, by rw [AV.R], rfl, rfl⟩; have hb : b ≠ 0 := by simpa using hok
             simp [eqGuard, binOp, Op.intDiv, hb]; done)
      · cases h
    · cases h
  · rename_i a
    split at h
    · rename_i b
      rw [AV.R] at hx hy
      subst hx hy
      unfold binS at h
      cases op <;> simp only [Option.some.injEq, Prod.mk.injEq, reduceCtorEq] at h <;> obtain ⟨rfl, rfl⟩ := h
      · refine ⟨_, ?_, by rw [AV.R], rfl, rfl⟩
        have hb : a.size + b.size ≤ 1000000000 := by simpa using hok
        have : ¬ ((a.size : Int) + (b.size : Int) > IntKind.i64.max) := by
          have : IntKind.i64.max = 9223372036854775807 := by decide
          omega
        simp [eqGuard, binOp, Op.stringOp]
        omega
      · refine ⟨_, ?_, by rw [AV.R], rfl, rfl⟩
        simp [eqGuard, binOp, Op.stringOp, str_eq]
      · refine ⟨_, ?_, by rw [AV.R], rfl, rfl⟩
        simp [eqGuard, binOp, Op.stringOp, str_eq]
    · cases h
  · rename_i k
    split at h
    · rename_i k' b
      split at h
      · rename_i hk
        obtain ⟨rfl, rfl⟩ := hk
        rw [AV.R] at hx
        rw [AV.R] at hy
        obtain ⟨n, hn, rfl⟩ := hx
        subst hy
        unfold binN at h
        cases op <;> simp only [Option.some.injEq, Prod.mk.injEq, reduceCtorEq] at h <;> obtain ⟨rfl, rfl⟩ := h
        · refine ⟨_, ?_, by rw [AV.R], rfl, rfl⟩
          simp [eqGuard, binOp, Op.intCmp, hn]
        · refine ⟨_, ?_, by rw [AV.R], rfl, rfl⟩
          simp [eqGuard, binOp, Op.intCmp, hn]
      · cases h
    · cases h
  · cases h
/-- Zeros: the same in every world. -/
def zr : AV → Value → Prop
  | .nil, v => v = .slice none 0 0
  | .bool b, v => v = .bool b
  | .int k n, v => v = .int k n
  | .str s, v => v = .string s
  | _, _ => False
def zrs : List AV → List Value → Prop
  | [], vs => vs = []
  | x :: l, vs => ∃ v r, vs = v :: r ∧ zr x v ∧ zrs l r
theorem zr_R {x : AV} {v : Value} (h : zr x v) : AV.R lim bs w x v ∧ x.top = true ∧ x.one = true ∧ (x.isRow = true → v = .slice none 0 0) := by
  unfold zr at h
  split at h
  · subst h; exact ⟨by rw [AV.R], rfl, rfl, fun h => by cases h⟩
  · subst h; exact ⟨by rw [AV.R], rfl, rfl, fun h => by cases h⟩
  · subst h; exact ⟨by rw [AV.R], rfl, rfl, fun h => by cases h⟩
  · subst h; exact ⟨by rw [AV.R], rfl, rfl, fun h => by cases h⟩
  · cases h
theorem zrs_R : ∀ {x : List AV} {c : List Value}, zrs x c → AV.Rs lim bs w x c ∧ x.all AV.top = true ∧ ones x = true ∧ (∀ (j : Nat) (y : AV) (v : Value), x[j]? = some y → c[j]? = some v → y.isRow = true → v = .slice none 0 0)
  | [], c, h => by
    rw [zrs] at h; subst h
    exact ⟨by rw [AV.Rs], rfl, rfl, fun j y v hy => by simp at hy⟩
  | z :: x, c, h => by
    rw [zrs] at h
    obtain ⟨v, r, rfl, h1, h2⟩ := h
    obtain ⟨a1, a2, a3, a4⟩ := zr_R (lim := lim) (bs := bs) (w := w) h1
    obtain ⟨b1, b2, b3, b4⟩ := zrs_R (x := x) (c := r) h2
    refine ⟨by rw [AV.Rs]; exact ⟨v, r, rfl, a1, b1⟩, by rw [List.all_cons, a2, b2]; rfl, by rw [ones, a3, b3]; rfl, fun j y u hy hu hr => ?_⟩
    cases j with
    | zero => simp at hy hu; subst hy hu; exact a4 hr
    | succ j => simp at hy hu; exact b4 j y u hy hu hr
theorem zrs_nils : ∀ {x : List AV} {c : List Value}, zrs x c → AV.Rs lim bs w x c ∧ AV.flats x = true
  | [], c, h => by
    rw [zrs] at h; subst h
    exact ⟨by rw [AV.Rs], rfl⟩
  | z :: x, c, h => by
    rw [zrs] at h
    obtain ⟨v, r, rfl, h1, h2⟩ := h
    obtain ⟨b1, b2⟩ := zrs_nils (x := x) (c := r) h2
    have hz := (zr_R (lim := lim) (bs := bs) (w := w) h1).1
    have hf : z.flat = true := by
      unfold zr at h1
      split at h1 <;> first | rfl | cases h1
    exact ⟨by rw [AV.Rs]; exact ⟨v, r, rfl, hz, b1⟩, by rw [AV.flats, hf, b2]; rfl⟩
/-- What a table of types says is so. -/
structure TOK (P : Program) (T : Tab) : Prop where
  str : P.underlying 9 = some .string
  u8 : P.underlying 5 = some (.int .u8)
  i64 : P.underlying 3 = some (.int .i64)
  mix : P.follows .mixedOrders = true
  und : ∀ t d, T t = some d → ∃ u, P.underlying t = some u ∧ u.isRow = d.agg ∧ (∀ e, d.elem = some e → u = .slice e)
  fld : ∀ t d, T t = some d → d.agg = true → ∃ fs : Array Field, P.underlying t = some (.struct fs) ∧ fs.size = d.offs.length ∧ ∀ (f : Nat) (q : Nat × Nat × Bool), d.offs[f]? = some q → ∃ (fl : Field) (i : TypeInfo) (u : TypeDesc), fs[f]? = some fl ∧ fl.offset = q.1 ∧ P.info? fl.type = some i ∧ i.size = q.2.1 ∧ P.underlying fl.type = some u ∧ u.isRow = q.2.2
  off : ∀ t d, T t = some d → d.agg = false → d.offs = []
  info : ∀ t d, T t = some d → ∃ (i : TypeInfo) (z : Value), P.info? t = some i ∧ i.size = d.size ∧ i.bytes = d.bytes ∧ i.zero = some z ∧ z.cells.size = d.size ∧ zrs d.zero z.cells.toList
variable {T : Tab}
theorem elT_some {T : Tab} {t e : Nat} {d : TD} (h : elT T t = some (e, d)) : (∃ d0, T t = some d0 ∧ d0.elem = some e) ∧ T e = some d := by
  unfold elT at h
  split at h
  · cases h
  · rename_i d0 h0
    split at h
    · cases h
    · rename_i e0 he
      split at h
      · cases h
      · rename_i d1 h1
        cases h
        exact ⟨⟨d0, h0, he⟩, h1⟩
theorem elT_und (HT : TOK P T) {t e : Nat} {d : TD} (h : elT T t = some (e, d)) : P.underlying t = some (.slice e) ∧ T e = some d := by
  obtain ⟨⟨d0, h0, he⟩, h1⟩ := elT_some h
  obtain ⟨u, hu, -, hs⟩ := HT.und t d0 h0
  rw [hs e he] at hu
  exact ⟨hu, h1⟩
theorem add_mid (b o n : Nat) : (⟨b, o, none⟩ : Addr).add n = ⟨b, o + n, none⟩ := by
  unfold Addr.add
  split
  · rename_i h; subst h; rfl
  · rfl
theorem run_sizeOf {t : TypeId} {i : TypeInfo} (h : P.info? t = some i) (w : World) : (sizeOf t).run P w = .ok i.size w := by
  simp [sizeOf, typeInfo, h]
theorem run_isAgg {t : TypeId} {u : TypeDesc} (h : P.underlying t = some u) (w : World) : (isAgg t).run P w = .ok u.isRow w := by
  unfold isAgg
  rw [Sem.run_bind, run_underlying h w]
  cases u <;> rfl
theorem run_fieldAt (HT : TOK P T) {t f b o : Nat} {d : TD} {q : Nat × Nat × Bool} (ht : T t = some d) (hq : d.offs[f]? = some q) (hpos : 0 < q.2.1) :
    (Instr.fieldAt t (.pointer (some ⟨b, o, none⟩)) f).run P w = .ok (.pointer (some ⟨b, o + q.1, none⟩)) w := by
  cases ha : d.agg with
  | false => rw [HT.off t d ht ha] at hq; cases hq
  | true =>
    obtain ⟨fs, hu, -, hf⟩ := HT.fld t d ht ha
    obtain ⟨fl, i, u, h1, h2, h3, h4, -⟩ := hf f q hq
    have hz : i.size ≠ 0 := by omega
    simp only [Instr.fieldAt, Sem.run_bind, run_underlying hu, Result.andThen_ok, h1, Instr.sureAddr, Sem.run_pure, fieldPlace, run_sizeOf h3, hz, if_false, h2, add_mid]
theorem run_index (HT : TOK P T) {s : ByteArray} {k : IntKind} {n : Int} (h0 : 0 ≤ n) (h1 : n < s.size) : (Instr.index 9 (.string s) (.int k n)).run P w = .ok (.int .u8 (bt s n.toNat)) w := by
  have h2 : n.toNat < s.size := by omega
  have h3 : s[n.toNat]? = some (s[n.toNat]) := by
    exact getElem?_pos s n.toNat h2
  simp only [Instr.index, asIntOf, Sem.run_bind, Sem.run_pure, Result.andThen_ok, run_underlying HT.str, if_pos h0, h3]
  unfold bt
  rw [dif_pos h2]
theorem run_indexAt (HT : TOK P T) {t e : Nat} {d : TD} (h : elT T t = some (e, d)) {b o len cap : Nat} {k : IntKind} {n : Int} (h0 : 0 ≤ n) (h1 : n < len) :
    (Instr.indexAt t (.slice (some ⟨b, o, none⟩) len cap) (.int k n)).run P w = .ok (.pointer (some ⟨b, o + n.toNat * d.size, none⟩)) w := by
  obtain ⟨hu, he⟩ := elT_und HT h
  obtain ⟨i, z, hi, hs, -⟩ := HT.info e d he
  simp only [Instr.indexAt, asIntOf, Sem.run_bind, Sem.run_pure, Result.andThen_ok, run_underlying hu, if_pos (And.intro h0 h1), run_sizeOf hi, hs, add_mid]
theorem flats_drop : ∀ {l : List AV} {n : Nat}, AV.flats l = true → AV.flats (l.drop n) = true
  | [], n, _ => by simp [AV.flats]
  | x :: l, 0, h => h
  | x :: l, n + 1, h => by rw [AV.flats, Bool.and_eq_true] at h; exact flats_drop (l := l) (n := n) h.2
theorem flats_take : ∀ {l : List AV} {n : Nat}, AV.flats l = true → AV.flats (l.take n) = true
  | [], n, _ => by simp [AV.flats]
  | x :: l, 0, h => rfl
  | x :: l, n + 1, h => by
    rw [AV.flats, Bool.and_eq_true] at h
    rw [List.take_succ_cons, AV.flats, h.1, flats_take (l := l) (n := n) h.2]; rfl
theorem flats_get : ∀ {l : List AV} {n : Nat} {v : AV}, AV.flats l = true → l[n]? = some v → v.flat = true
  | [], n, v, _, hv => by simp at hv
  | x :: l, 0, v, h, hv => by rw [AV.flats, Bool.and_eq_true] at h; simp at hv; subst hv; exact h.1
  | x :: l, n + 1, v, h, hv => by rw [AV.flats, Bool.and_eq_true] at h; exact flats_get (l := l) (n := n) h.2 (by simpa using hv)
theorem flats_map_dem : ∀ {l : List AV} {c : List Value}, l.all AV.top = true → AV.Rs lim bs w l c → AV.flats (l.map AV.dem) = true
  | [], c, _, _ => rfl
  | x :: l, c, h, hr => by
    rw [List.all_cons, Bool.and_eq_true] at h
    rw [AV.Rs] at hr
    obtain ⟨v, r, rfl, h1, h2⟩ := hr
    rw [List.map_cons, AV.flats, AV.R.dem_flat h.1 h1, flats_map_dem h.2 h2]; rfl
theorem Rs_map_dem : ∀ {l : List AV} {c : List Value}, AV.Rs lim bs w l c → AV.Rs lim bs w (l.map AV.dem) c
  | [], c, h => h
  | x :: l, c, h => by
    rw [AV.Rs] at h
    obtain ⟨v, r, rfl, h1, h2⟩ := h
    rw [List.map_cons, AV.Rs]
    exact ⟨v, r, rfl, h1.dem, Rs_map_dem h2⟩
theorem Rs_drop : ∀ {l : List AV} {c : List Value} {n : Nat}, AV.Rs lim bs w l c → AV.Rs lim bs w (l.drop n) (c.drop n)
  | [], c, n, h => by rw [AV.Rs] at h; subst h; simp only [List.drop_nil]; rw [AV.Rs]
  | x :: l, c, 0, h => h
  | x :: l, c, n + 1, h => by
    rw [AV.Rs] at h
    obtain ⟨v, r, rfl, h1, h2⟩ := h
    exact Rs_drop (n := n) h2
theorem Rs_take : ∀ {l : List AV} {c : List Value} {n : Nat}, AV.Rs lim bs w l c → AV.Rs lim bs w (l.take n) (c.take n)
  | [], c, n, h => by rw [AV.Rs] at h; subst h; simp only [List.take_nil]; rw [AV.Rs]
  | x :: l, c, 0, h => by rw [List.take_zero, List.take_zero, AV.Rs]
  | x :: l, c, n + 1, h => by
    rw [AV.Rs] at h
    obtain ⟨v, r, rfl, h1, h2⟩ := h
    rw [List.take_succ_cons, List.take_succ_cons, AV.Rs]
    exact ⟨v, _, rfl, h1, Rs_take (n := n) h2⟩
theorem Rm_drop : ∀ {l : List AV} {b o n : Nat}, AV.Rm lim bs w b o l → AV.Rm lim bs w b (o + n) (l.drop n)
  | [], b, o, n, h => by simp only [List.drop_nil]; rw [AV.Rm]; trivial
  | x :: l, b, o, 0, h => h
  | x :: l, b, o, n + 1, h => by
    rw [AV.Rm] at h
    have := Rm_drop (n := n) h.2
    rw [show o + (n + 1) = o + 1 + n by omega]
    exact this
theorem Rm_take : ∀ {l : List AV} {b o n : Nat}, AV.Rm lim bs w b o l → AV.Rm lim bs w b o (l.take n)
  | [], b, o, n, h => by simp only [List.take_nil]; exact h
  | x :: l, b, o, 0, h => by rw [List.take_zero, AV.Rm]; trivial
  | x :: l, b, o, n + 1, h => by
    rw [AV.Rm] at h
    rw [List.take_succ_cons, AV.Rm]
    exact ⟨h.1, Rm_take h.2⟩
/-- The values that stand there. -/
theorem Rm_vals : ∀ {l : List AV} {b o : Nat}, AV.Rm lim bs w b o l → ∃ vs : List Value, vs.length = l.length ∧ AV.Rs lim bs w l vs ∧ ∀ (j : Nat) (v : Value), vs[j]? = some v → w.cell? ⟨b, o + j, none⟩ = some v
  | [], b, o, h => ⟨[], rfl, by rw [AV.Rs], fun j v hj => by simp at hj⟩
  | x :: l, b, o, h => by
    rw [AV.Rm] at h
    obtain ⟨⟨v, h1, h2⟩, h3⟩ := h
    obtain ⟨vs, h4, h5, h6⟩ := Rm_vals h3
    refine ⟨v :: vs, by simp [h4], by rw [AV.Rs]; exact ⟨v, vs, rfl, h2, h5⟩, fun j u hj => ?_⟩
    cases j with
    | zero => simp at hj; subst hj; exact h1
    | succ j =>
      have := h6 j u (by simpa using hj)
      rw [show o + (j + 1) = o + 1 + j by omega]; exact this
theorem Rm_of_vals : ∀ {l : List AV} {b o : Nat} {vs : List Value}, AV.Rs lim bs w l vs → (∀ (j : Nat) (v : Value), vs[j]? = some v → w.cell? ⟨b, o + j, none⟩ = some v) → AV.Rm lim bs w b o l
  | [], b, o, vs, h, hc => by rw [AV.Rm]; trivial
  | x :: l, b, o, vs, h, hc => by
    rw [AV.Rs] at h
    obtain ⟨v, r, rfl, h1, h2⟩ := h
    rw [AV.Rm]
    refine ⟨⟨v, hc 0 v rfl, h1⟩, Rm_of_vals h2 (fun j u hj => ?_)⟩
    have := hc (j + 1) u (by simpa using hj)
    rw [show o + 1 + j = o + (j + 1) by omega]; exact this
theorem run_load_one {ty : TypeId} {u : TypeDesc} {ad : Addr} {v : Value} (hu : P.underlying ty = some u) (hr : u.isRow = false) (hc : w.cell? ad = some v) : (Instr.loadAt ty (.pointer (some ad))).run P w = .ok v w := by
  simp [Instr.loadAt, Instr.sureAddr, loadVar, Sem.run_bind, run_isAgg hu w, hr, hc]
theorem run_load_row (HT : TOK P T) {ty b o : Nat} {d : TD} (ht : T ty = some d) (ha : d.agg = true) {vs : List Value} (hl : vs.length = d.size) (hc : ∀ (j : Nat) (v : Value), vs[j]? = some v → w.cell? ⟨b, o + j, none⟩ = some v) :
    (Instr.loadAt ty (.pointer (some ⟨b, o, none⟩))).run P w = .ok (.agg vs.toArray) w := by
  obtain ⟨u, hu, hr, -⟩ := HT.und ty d ht
  obtain ⟨i, z, hi, hs, -⟩ := HT.info ty d ht
  have := run_loadAt_mid (P := P) w b o ty vs u (fun j v hj => hc j v hj) hu (by rw [hr, ha]) (by rw [hi, Option.map_some, hs, hl])
  simp only [Instr.loadAt, Instr.sureAddr, Sem.run_bind, Sem.run_pure, Result.andThen_ok]
  exact this
end Ab
end Go.Proofs.YtlmjabnkjmfcmaaGreat
/- A run on abstract values: operations that turn nothing are told rightly. -/
namespace Go.Proofs.YtlmjabnkjmfcmaaGreat
open Go Go.RowKit Go.PlainAid
set_option linter.unusedVariables false
set_option linter.unusedSimpArgs false
namespace Ab
variable {lim : Nat → Nat} {bs : List Nat} {w : World} {P : Program} {T : Tab} {a : Act} {o : Oper} {cs : List (List AV)} {out : Out}
theorem flat_row {x : AV} (h : x.flat = true) : x.isRow = false := by cases x <;> first | rfl | (rw [AV.flat] at h; cases h)
/-- The operation yields such a value, and nothing else. -/
structure PO (P : Program) (lim : Nat → Nat) (bs : List Nat) (w : World) (a : Act) (o : Oper) (cs : List (List AV)) (out : Out) : Prop where
  bs_ : out.bs = cs
  nw : out.nw = []
  fl : out.v.flat = true
  run : ∃ u, (execOp a.eval o).run P w = .ok (.value u) w ∧ AV.R lim bs w out.v u
/-- What an operand is. -/
structure Av (lim : Nat → Nat) (bs : List Nat) (w : World) (x : AV) (u : Value) : Prop where
  r : AV.R lim bs w x u
  t : x.top = true
theorem Av.flat {x : AV} {u : Value} (h : Av lim bs w x u) : x.dem.flat = true := AV.R.dem_flat h.t h.r
theorem yesIf_inv {v : AV} {cs : List (List AV)} {ok : Bool} (h : yesIf v cs ok = some out) : out = ⟨v, cs, [], ok⟩ := by unfold yesIf at h; cases h; rfl
theorem yes_inv {v : AV} {cs : List (List AV)} (h : yes v cs = some out) : out = ⟨v, cs, [], true⟩ := by unfold yes at h; cases h; rfl
theorem s_bin {op : BinOp} {t t' : TypeId} {x y : Operand} {X Y : AV} (ho : o.op = .binOp op t x y t') (hx : Av lim bs w X (a.eval x)) (hy : Av lim bs w Y (a.eval y)) (h : cBin op X Y cs = some out) (hok : out.ok = true) : PO P lim bs w a o cs out := by
  unfold cBin at h
  split at h
  · cases h
  · rename_i v ok hb
    have := yesIf_inv h; subst this
    obtain ⟨u, h1, h2, h3, -⟩ := run_bin (P := P) (t := t) (ox := x) (oy := y) hb hok hx.r hy.r
    refine ⟨rfl, rfl, h3, u, ?_, h2⟩
    unfold execOp
    simp only [ho]
    rw [Sem.run_bind, h1]; rfl
theorem s_pick {c x y : Operand} {C X Y : AV} (ho : o.op = .pick c x y) (hc : Av lim bs w C (a.eval c)) (hx : Av lim bs w X (a.eval x)) (hy : Av lim bs w Y (a.eval y)) (h : cPick C X Y cs = some out) : PO P lim bs w a o cs out := by
  unfold cPick at h
  split at h
  · rename_i t
    have := yes_inv h; subst this
    have h1 := hc.r
    rw [AV.R] at h1
    refine ⟨rfl, rfl, ?_, if t = true then a.eval x else a.eval y, ?_, ?_⟩
    · show (if t = true then X.dem else Y.dem).flat = true
      split
      · exact hx.flat
      · exact hy.flat
    · unfold execOp
      simp only [ho, h1, asBool]
      cases t <;> rfl
    · show AV.R lim bs w (if t = true then X.dem else Y.dem) _
      split
      · exact hx.r.dem
      · exact hy.r.dem
  · cases h
theorem s_nil {x : Operand} {X : AV} (ho : o.op = .nilCheck x) (hx : Av lim bs w X (a.eval x)) (h : cNil X cs = some out) : PO P lim bs w a o cs out := by
  unfold cNil at h
  split at h
  · rename_i i o'
    have := yes_inv h; subst this
    have h1 := hx.r
    rw [AV.R] at h1
    obtain ⟨b, h2, h3⟩ := h1
    refine ⟨rfl, rfl, rfl, a.eval x, ?_, hx.r⟩
    unfold execOp
    simp only [ho, h3]; rfl
  · rename_i l
    have := yes_inv h; subst this
    have h1 := hx.r
    have hf := hx.t
    rw [AV.R] at h1
    obtain ⟨b, o', h3, -⟩ := h1
    refine ⟨rfl, rfl, by simpa [AV.top, AV.isRow] using hf, a.eval x, ?_, hx.r⟩
    unfold execOp
    simp only [ho, h3]; rfl
  · cases h
theorem s_not {op : UnOp} {t : TypeId} {x : Operand} {X : AV} (ho : o.op = .unOp op t x) (hx : Av lim bs w X (a.eval x)) (h : cNot op X cs = some out) : PO P lim bs w a o cs out := by
  unfold cNot at h
  split at h
  · rename_i b
    split at h
    · have := yes_inv h; subst this
      have h1 := hx.r
      rw [AV.R] at h1
      refine ⟨rfl, rfl, rfl, .bool !b, ?_, by rw [AV.R]⟩
      unfold execOp
      simp only [ho, h1]; rfl
    · cases h
  · cases h
theorem s_conv (HT : TOK P T) {s t : TypeId} {x : Operand} {X : AV} (ho : o.op = .convert s t x) (hx : Av lim bs w X (a.eval x)) (h : cConv s t X cs = some out) (hok : out.ok = true) : PO P lim bs w a o cs out := by
  unfold cConv at h
  split at h
  · rename_i k n
    have := yesIf_inv h; subst this
    have h1 := hx.r
    rw [AV.R] at h1
    obtain ⟨e1, e2⟩ : s = 5 ∧ t = 3 := by simpa using hok
    subst e1 e2
    refine ⟨rfl, rfl, rfl, .int .i64 (IntKind.i64.wrap n), ?_, by rw [AV.R]⟩
    unfold execOp
    simp only [ho, h1, convert, Sem.run_bind, run_underlying HT.u8, run_underlying HT.i64, Result.andThen_ok, Conv.intToInt, Sem.run_pure]
  · cases h
theorem s_move {x : Operand} {X : AV} (ho : o.op = .move x) (hx : Av lim bs w X (a.eval x)) (h : yes X.dem cs = some out) : PO P lim bs w a o cs out := by
  have := yes_inv h; subst this
  refine ⟨rfl, rfl, hx.flat, a.eval x, ?_, hx.r.dem⟩
  unfold execOp
  simp only [ho]; rfl
theorem s_fieldAddr (HT : TOK P T) {t f : Nat} {x : Operand} {X : AV} {d : TD} {q : Nat × Nat × Bool} (ho : o.op = .fieldAddr t x f) (ht : T t = some d) (hq : d.offs[f]? = some q) (hx : Av lim bs w X (a.eval x)) (h : cFieldAddr q X cs = some out) (hok : out.ok = true) : PO P lim bs w a o cs out := by
  unfold cFieldAddr at h
  split at h
  · rename_i i o'
    have := yesIf_inv h; subst this
    have hp : 0 < q.2.1 := by simpa using hok
    have h1 := hx.r
    rw [AV.R] at h1
    obtain ⟨b, h2, h3⟩ := h1
    refine ⟨rfl, rfl, rfl, .pointer (some ⟨b, o' + q.1, none⟩), ?_, by rw [AV.R]; exact ⟨b, h2, rfl⟩⟩
    unfold execOp
    simp only [ho, h3]
    rw [Sem.run_bind, run_fieldAt HT ht hq hp]; rfl
  · rename_i l
    have := yesIf_inv h; subst this
    obtain ⟨hp, hl⟩ : 0 < q.2.1 ∧ q.1 < l.length := by simpa using hok
    have h1 := hx.r
    have hf := hx.t
    rw [AV.R] at h1
    obtain ⟨b, o', h3, h4, h5, h6⟩ := h1
    refine ⟨rfl, rfl, ?_, .pointer (some ⟨b, o' + q.1, none⟩), ?_, ?_⟩
    · show AV.flats (l.drop q.1) = true
      exact flats_drop (by simpa [AV.top, AV.isRow, AV.flat] using hf)
    · unfold execOp
      simp only [ho, h3]
      rw [Sem.run_bind, run_fieldAt HT ht hq hp]; rfl
    · show AV.R lim bs w (.el (l.drop q.1)) _
      rw [AV.R]
      exact ⟨b, o' + q.1, rfl, h4, by rw [List.length_drop]; omega, Rm_drop h6⟩
  · cases h
theorem s_index (HT : TOK P T) {t : TypeId} {x i : Operand} {X I : AV} (ho : o.op = .index t x i) (hx : Av lim bs w X (a.eval x)) (hi : Av lim bs w I (a.eval i)) (h : cIndex t X I cs = some out) (hok : out.ok = true) : PO P lim bs w a o cs out := by
  unfold cIndex at h
  split at h
  · rename_i s
    split at h
    · rename_i k n
      have := yesIf_inv h; subst this
      obtain ⟨⟨h0, h1⟩, rfl⟩ : (0 ≤ n ∧ n < s.size) ∧ t = 9 := by simpa using hok
      have e1 := hx.r
      have e2 := hi.r
      rw [AV.R] at e1
      rw [AV.R] at e2
      refine ⟨rfl, rfl, rfl, .int .u8 (bt s n.toNat), ?_, by rw [AV.R]⟩
      unfold execOp
      simp only [ho, e1, e2]
      rw [Sem.run_bind, run_index HT h0 h1]; rfl
    · cases h
  · cases h
/-- The elements of a slice, in memory. -/
theorem elems_R {X : AV} {u : Value} {n : Nat} {l : List AV} (hx : Av lim bs w X u) (h : elems X = some (n, l)) :
    ∃ ad c, u = .slice ad n c ∧ n ≤ c ∧ AV.flats l = true ∧ (l = [] ∨ ∃ b o, ad = some ⟨b, o, none⟩ ∧ b < w.heap.size ∧ o + l.length ≤ lim b ∧ AV.Rm lim bs w b o l) := by
  have hr := hx.r.dem
  have hf := hx.flat
  unfold elems at h
  split at h
  · cases h
    replace hr : AV.R lim bs w .nil u := hr
    rw [AV.R] at hr
    subst hr
    exact ⟨none, 0, rfl, Nat.le_refl _, rfl, .inl rfl⟩
  · cases h
    replace hr : AV.R lim bs w (.sl n l) u := hr
    rw [AV.R] at hr
    obtain ⟨ad, c, h1, h2, h3⟩ := hr
    exact ⟨ad, c, h1, h2, hf, h3⟩
  · cases h
    replace hr : AV.R lim bs w (.sl n l) u := hr
    rw [AV.R] at hr
    obtain ⟨ad, c, h1, h2, h3⟩ := hr
    exact ⟨ad, c, h1, h2, hf, h3⟩
  · cases h
theorem s_indexAddr (HT : TOK P T) {t e : Nat} {x i : Operand} {X I : AV} {d : TD} (ho : o.op = .indexAddr t x i) (he : elT T t = some (e, d)) (hx : Av lim bs w X (a.eval x)) (hi : Av lim bs w I (a.eval i)) (h : cIndexAddr d X I cs = some out) (hok : out.ok = true) : PO P lim bs w a o cs out := by
  unfold cIndexAddr at h
  split at h
  · rename_i b e' z m
    split at h
    · rename_i k n
      have := yesIf_inv h; subst this
      obtain ⟨⟨h0, h1⟩, h2⟩ : (0 ≤ n ∧ n < m) ∧ d.size = z := by simpa using hok
      subst h2
      have e1 := hx.r
      rw [AV.R] at e1
      obtain ⟨bb, c, cur, f1, -, -, f2, -, f3⟩ := e1
      have e5 := hi.r
      rw [AV.R] at e5
      refine ⟨rfl, rfl, rfl, .pointer (some ⟨bb, 0 + n.toNat * d.size, none⟩), ?_, ?_⟩
      · unfold execOp
        simp only [ho, f3, e5]
        rw [Sem.run_bind, run_indexAt HT he h0 h1]; rfl
      · rw [AV.R, Nat.zero_add]; exact ⟨bb, f1, rfl⟩
    · cases h
  · split at h
    · cases h
    · rename_i m l hl
      split at h
      · rename_i k n
        have := yesIf_inv h; subst this
        obtain ⟨⟨h0, h1⟩, h2⟩ : (0 ≤ n ∧ n < m) ∧ n.toNat * d.size < l.length := by simpa using hok
        obtain ⟨ad, c, e1, e2, e3, e4⟩ := elems_R hx hl
        have e5 := hi.r
        rw [AV.R] at e5
        rcases e4 with e4 | ⟨b, o', rfl, f1, f2, f3⟩
        · subst e4; simp at h2
        refine ⟨rfl, rfl, flats_drop e3, .pointer (some ⟨b, o' + n.toNat * d.size, none⟩), ?_, ?_⟩
        · unfold execOp
          simp only [ho, e1, e5]
          rw [Sem.run_bind, run_indexAt HT he h0 h1]; rfl
        · show AV.R lim bs w (.el (l.drop _)) _
          rw [AV.R]
          exact ⟨b, _, rfl, f1, by rw [List.length_drop]; omega, Rm_drop f3⟩
      · cases h
theorem s_extract {x : Operand} {X : AV} {i : Nat} (ho : o.op = .extract x i) (hx : Av lim bs w X (a.eval x)) (h : cExtract X i cs = some out) : PO P lim bs w a o cs out := by
  unfold cExtract at h
  split at h
  · rename_i l
    split at h
    · rename_i v hv
      have := yes_inv h; subst this
      have h1 := hx.r
      have hf := hx.t
      rw [AV.R] at h1
      obtain ⟨vs, h2, h3⟩ := h1
      obtain ⟨u, h4, h5⟩ := Rs_get h3 hv
      refine ⟨rfl, rfl, flats_get (by simpa [AV.top, AV.isRow, AV.flat] using hf) hv, u, ?_, h5⟩
      have h6 : vs[i]? = some u := by simpa using h4
      unfold execOp
      simp only [ho, h2, Instr.extract, h6]; rfl
    · cases h
  · cases h
theorem s_load_el (HT : TOK P T) {t : Nat} {x : Operand} {l : List AV} {d : TD} {ad : Bool} (ho : o.op = .load t x) (ht : T t = some d) (hx : Av lim bs w (.el l) (a.eval x)) (h : cLoad d ad (.el l) cs = some out) (hok : out.ok = true) : PO P lim bs w a o cs out := by
  have h1 := hx.r
  have hf : AV.flats l = true := by simpa [AV.top, AV.isRow, AV.flat] using hx.t
  rw [AV.R] at h1
  obtain ⟨b, o', h3, h4, h5, h6⟩ := h1
  unfold cLoad at h
  simp only [] at h
  split at h
  · rename_i ha
    have := yesIf_inv h; subst this
    have hl : d.size ≤ l.length := by simpa using hok
    obtain ⟨vs, v1, v2, v3⟩ := Rm_vals (Rm_take (n := d.size) h6)
    refine ⟨rfl, rfl, flats_take hf, .agg vs.toArray, ?_, ?_⟩
    · unfold execOp
      simp only [ho, h3]
      rw [Sem.run_bind, run_load_row HT ht ha (by rw [v1, List.length_take]; omega) v3]; rfl
    · show AV.R lim bs w (.agg _) _
      rw [AV.R]
      exact ⟨_, rfl, by simpa using v2⟩
  · rename_i ha
    split at h
    · rename_i v r
      have := yes_inv h; subst this
      rw [AV.Rm] at h6
      obtain ⟨⟨u, e1, e2⟩, -⟩ := h6
      obtain ⟨ud, hu, hr, -⟩ := HT.und t d ht
      rw [AV.flats, Bool.and_eq_true] at hf
      refine ⟨rfl, rfl, hf.1, u, ?_, e2⟩
      unfold execOp
      simp only [ho, h3]
      rw [Sem.run_bind, run_load_one hu (by rw [hr]; simpa using ha) e1]; rfl
    · cases h
theorem run_part {t : TypeId} {u : TypeDesc} {i : TypeInfo} (hu : P.underlying t = some u) (hi : P.info? t = some i) (vs : Array Value) (o : Nat) (hl : o + i.size ≤ vs.size) :
    (u.isRow = true → (part t vs o).run P w = .ok (.agg (vs.extract o (o + i.size))) w) ∧ (∀ v, u.isRow = false → vs[o]? = some v → (part t vs o).run P w = .ok v w) := by
  constructor
  · intro h
    simp [part, Sem.run_bind, run_isAgg hu w, h, run_sizeOf hi]
  · intro v h hv
    simp [part, Sem.run_bind, run_isAgg hu w, h, hv]
theorem s_field (HT : TOK P T) {t f : Nat} {x : Operand} {X : AV} {d : TD} {q : Nat × Nat × Bool} (ho : o.op = .field t x f) (ht : T t = some d) (hq : d.offs[f]? = some q) (hx : Av lim bs w X (a.eval x)) (h : cField q X cs = some out) (hok : out.ok = true) : PO P lim bs w a o cs out := by
  cases ha : d.agg with
  | false => rw [HT.off t d ht ha] at hq; cases hq
  | true =>
  obtain ⟨fs, hu, -, hfl⟩ := HT.fld t d ht ha
  obtain ⟨fl, i, u, h1, h2, h3, h4, h5, h6⟩ := hfl f q hq
  unfold cField at h
  split at h
  · rename_i l
    have e1 := hx.r
    have hf : AV.flats l = true := by simpa [AV.top, AV.isRow, AV.flat] using hx.t
    rw [AV.R] at e1
    obtain ⟨vs, e2, e3⟩ := e1
    have hlen := AV.Rs_len e3
    have hlen2 : vs.size = l.length := by simpa using hlen
    split at h
    · rename_i hr
      have := yesIf_inv h; subst this
      have hl : q.1 + q.2.1 ≤ l.length := by simpa using hok
      refine ⟨rfl, rfl, flats_take (flats_drop hf), .agg (vs.extract q.1 (q.1 + q.2.1)), ?_, ?_⟩
      · unfold execOp
        simp only [ho, e2, Instr.field, Sem.run_bind, run_underlying hu, Result.andThen_ok, h1, asAgg, Sem.run_pure, h2]
        rw [(run_part h5 h3 vs q.1 (by omega)).1 (by rw [h6, hr]), h4]; rfl
      · show AV.R lim bs w (.agg _) _
        rw [AV.R]
        refine ⟨_, rfl, ?_⟩
        have : (vs.extract q.1 (q.1 + q.2.1)).toList = (vs.toList.drop q.1).take q.2.1 := by
          rw [Array.toList_extract, List.extract_eq_take_drop]; congr 1; omega
        rw [this]
        exact Rs_take (Rs_drop e3)
    · rename_i hr
      split at h
      · rename_i v hv
        have := yes_inv h; subst this
        obtain ⟨u', f1, f2⟩ := Rs_get e3 hv
        have hlt : q.1 < l.length := by
          rcases Nat.lt_or_ge q.1 l.length with h' | h'
          · exact h'
          · rw [List.getElem?_eq_none h'] at hv; cases hv
        refine ⟨rfl, rfl, flats_get hf hv, u', ?_, f2⟩
        have f3 : vs[q.1]? = some u' := by simpa using f1
        have hr2 : u.isRow = false := by rw [h6]; simpa using hr
        unfold execOp
        simp only [ho, e2, Instr.field, Sem.run_bind, run_underlying hu, Result.andThen_ok, h1, asAgg, Sem.run_pure, h2]
        have : (part fl.type vs q.1).run P w = .ok u' w := by simp [part, Sem.run_bind, run_isAgg h5 w, hr2, f3]
        rw [this]; rfl
      · cases h
  · cases h
theorem s_slice (HT : TOK P T) {t : TypeId} {x : Operand} {lo hi : Option Operand} {X : AV} {L H : Option AV} (ho : o.op = .slice t x lo hi none) (hx : Av lim bs w X (a.eval x)) (hL : ∀ y, lo = some y → ∃ Y, L = some Y ∧ Av lim bs w Y (a.eval y)) (hL0 : lo = none → L = none) (hH : ∀ y, hi = some y → ∃ Y, H = some Y ∧ Av lim bs w Y (a.eval y)) (hH0 : hi = none → H = none)
    (h : cSlice T t X L H cs = some out) (hok : out.ok = true) : PO P lim bs w a o cs out := by
  have bnd : ∀ (y : Option Operand) (Y : Option AV) (dflt : Int) (k : IntKind) (n : Int), (∀ z, y = some z → ∃ Z, Y = some Z ∧ Av lim bs w Z (a.eval z)) → (y = none → Y = none) → Y.getD (.int .i64 dflt) = .int k n → (y = none ∧ n = dflt) ∨ (∃ z k', y = some z ∧ a.eval z = .int k' n) := by
    intro y Y dflt k n h1 h2 h3
    cases y with
    | none => rw [h2 rfl] at h3; cases h3; exact .inl ⟨rfl, rfl⟩
    | some z =>
      obtain ⟨Z, rfl, hz⟩ := h1 z rfl
      simp only [Option.getD_some] at h3
      subst h3
      have := hz.r
      rw [AV.R] at this
      exact .inr ⟨z, k, rfl, this⟩
  have key : ∀ (isS : Bool) (len cap : Nat) (A B : Int), ((lo = none ∧ A = 0) ∨ (∃ z k', lo = some z ∧ a.eval z = .int k' A)) → ((hi = none ∧ B = len) ∨ (∃ z k', hi = some z ∧ a.eval z = .int k' B)) → 0 ≤ A → A ≤ B → B ≤ len → len ≤ cap →
      (Instr.sliceBounds isS len cap (lo.map a.eval) (hi.map a.eval) none).run P w = .ok (A.toNat, B.toNat, cap) w := by
    intro isS len cap A B h1 h2 h3 h4 h5 h6
    have hsb : ∀ (k : IntKind) (n : Int) (y : Nat) (c : BoundsCode), 0 ≤ n → n ≤ y → (Instr.sliceBound (.int k n) y c).run P w = .ok n.toNat w := by
      intro k n y c g1 g2
      simp [Instr.sliceBound, asIntOf, g1, g2]
    have hB : ((B.toNat : Nat) : Int) = B := by omega
    rcases h1 with ⟨rfl, rfl⟩ | ⟨z, k, rfl, e1⟩
    · rcases h2 with ⟨rfl, rfl⟩ | ⟨z', k', rfl, e2⟩
      · simp [Instr.sliceBounds]
      · simp only [Instr.sliceBounds, Option.map_some, Option.map_none, e2, Sem.run_bind, Sem.run_pure, Result.andThen_ok]
        rw [hsb k' B cap _ (by omega) (by omega)]
        rfl
    · rcases h2 with ⟨rfl, rfl⟩ | ⟨z', k', rfl, e2⟩
      · simp only [Instr.sliceBounds, Option.map_some, Option.map_none, e1, Sem.run_bind, Sem.run_pure, Result.andThen_ok]
        rw [hsb k A len _ h3 h4]
        rfl
      · simp only [Instr.sliceBounds, Option.map_some, Option.map_none, e1, e2, Sem.run_bind, Sem.run_pure, Result.andThen_ok]
        rw [hsb k' B cap _ (by omega) (by omega)]
        simp only [Result.andThen_ok, Sem.run_bind]
        rw [hsb k A B.toNat _ h3 (by omega)]
        rfl
  unfold cSlice at h
  split at h
  · rename_i s
    split at h
    · rename_i k A hA
      split at h
      · rename_i k' B hB
        have := yesIf_inv h; subst this
        obtain ⟨⟨⟨h0, h1⟩, h2⟩, rfl⟩ : ((0 ≤ A ∧ A ≤ B) ∧ B ≤ s.size) ∧ t = 9 := by simpa using hok
        have e1 := hx.r
        rw [AV.R] at e1
        have hb := key false s.size s.size A B (bnd lo L 0 _ A hL hL0 hA) (bnd hi H _ _ B hH hH0 hB) h0 h1 h2 (Nat.le_refl _)
        refine ⟨rfl, rfl, rfl, .string (s.extract A.toNat B.toNat), ?_, by rw [AV.R]⟩
        unfold execOp
        simp only [ho, e1, Instr.sliceAt, Instr.slice, Sem.run_bind, run_underlying HT.str, Result.andThen_ok, Option.map_none, hb, Option.isSome_none, Bool.false_eq_true, if_false, Sem.run_pure]
      · cases h
    · cases h
  · rename_i V hV
    split at h
    · cases h
    · rename_i e d he
      split at h
      · cases h
      · rename_i n l hl
        split at h
        · rename_i k A hA
          split at h
          · rename_i k' B hB
            have := yesIf_inv h; subst this
            obtain ⟨⟨h0, h1⟩, h2⟩ : (0 ≤ A ∧ A ≤ B) ∧ B ≤ n := by simpa using hok
            obtain ⟨ad, c, e1, e2, e3, e4⟩ := elems_R hx hl
            obtain ⟨hu, hT2⟩ := elT_und HT he
            obtain ⟨i, z, hi2, hs, -⟩ := HT.info e d hT2
            have hb := key true n c A B (bnd lo L 0 _ A hL hL0 hA) (bnd hi H _ _ B hH hH0 hB) h0 h1 h2 e2
            refine ⟨rfl, rfl, flats_take (flats_drop e3), .slice (if c = A.toNat then ad else ad.map (·.add (A.toNat * d.size))) (B.toNat - A.toNat) (c - A.toNat), ?_, ?_⟩
            · unfold execOp
              simp only [ho, e1, Instr.sliceAt, Instr.slice, Sem.run_bind, run_underlying hu, Result.andThen_ok, Option.map_none, hb, run_sizeOf hi2, hs, Sem.run_pure]
            · show AV.R lim bs w (.sl _ _) _
              rw [AV.R]
              refine ⟨_, _, rfl, by omega, ?_⟩
              rcases e4 with e4 | ⟨b, o', rfl, f1, f2, f3⟩
              · left; rw [e4]; simp
              · by_cases hg : l.length ≤ A.toNat * d.size
                · left; rw [List.drop_eq_nil_of_le hg]; simp
                by_cases hc : c = A.toNat
                · left
                  have : B.toNat - A.toNat = 0 := by omega
                  rw [this]; simp
                · rw [if_neg hc]
                  right
                  refine ⟨b, o' + A.toNat * d.size, by simp [add_mid], f1, ?_, Rm_take (Rm_drop f3)⟩
                  rw [List.length_take, List.length_drop]
                  have : min ((B.toNat - A.toNat) * d.size) (l.length - A.toNat * d.size) ≤ l.length - A.toNat * d.size := Nat.min_le_right _ _
                  omega
          · cases h
        · cases h
theorem eval_ops (ρ : Operand → Value) (l : Array Operand) : (l.map ρ).toList = l.toList.map ρ := by simp
theorem s_len (HT : TOK P T) {c : Call} {x : Operand} {X : AV} (ho : o.op = .call c) (hc : c.callee = .builtin .len) (ha : c.args = #[x]) (hx : Av lim bs w X (a.eval x)) (h : cLen T c.argTypes.toList X cs = some out) (hok : out.ok = true) : PO P lim bs w a o cs out := by
  obtain ⟨cb, hres⟩ : ∃ cb, (resolve a.eval c o.type).run P w = .ok { target := .builtin .len c.argTypes o.type cb, args := #[a.eval x] } w := ⟨_, by simp [resolve, hc, ha]; rfl⟩
  unfold cLen at h
  split at h
  · rename_i t ht
    have hat : c.argTypes[0]? = some t := by
      have : c.argTypes.toList[0]? = some t := by rw [ht]; rfl
      simpa using this
    split at h
    · rename_i s
      have := yesIf_inv h; subst this
      have ht9 : t = 9 := by simpa using hok
      subst ht9
      have e1 := hx.r
      rw [AV.R] at e1
      refine ⟨rfl, rfl, rfl, .int .i64 s.size, ?_, by rw [AV.R]⟩
      unfold execOp
      simp only [ho, Sem.run_bind, hres, Result.andThen_ok, invoke, builtin, Builtin.len_, hat]
      simp [e1, run_underlying HT.str, goInt]
    · rename_i bi be bz n
      have := yesIf_inv h; subst this
      obtain ⟨⟨e, d⟩, he⟩ := Option.isSome_iff_exists.1 hok
      obtain ⟨hu, -⟩ := elT_und HT he
      have e1 := hx.r
      rw [AV.R] at e1
      obtain ⟨bb, cp, cur, f1, -, -, f2, -, f3⟩ := e1
      refine ⟨rfl, rfl, rfl, .int .i64 n, ?_, by rw [AV.R]⟩
      unfold execOp
      simp only [ho, Sem.run_bind, hres, Result.andThen_ok, invoke, builtin, Builtin.len_, hat]
      simp [f3, run_underlying hu, goInt]
    · split at h
      · cases h
      · rename_i n l hl
        have := yesIf_inv h; subst this
        obtain ⟨⟨e, d⟩, he⟩ := Option.isSome_iff_exists.1 hok
        obtain ⟨hu, -⟩ := elT_und HT he
        obtain ⟨ad, cp, e1, -⟩ := elems_R hx hl
        refine ⟨rfl, rfl, rfl, .int .i64 n, ?_, by rw [AV.R]⟩
        unfold execOp
        simp only [ho, Sem.run_bind, hres, Result.andThen_ok, invoke, builtin, Builtin.len_, hat]
        simp [e1, run_underlying hu, goInt]
  · cases h
theorem s_ext {mx : Bool} {c : Call} {x y : Operand} {X Y V : AV} (ho : o.op = .call c) (hc : c.callee = .builtin (if mx = true then .max else .min)) (ha : c.args = #[x, y]) (hx : Av lim bs w X (a.eval x)) (hy : Av lim bs w Y (a.eval y)) (h : ext2 mx X Y = some V) : PO P lim bs w a o cs ⟨V, cs, [], true⟩ := by
  unfold ext2 at h
  split at h
  · rename_i k A k' B
    split at h
    · rename_i hk
      subst hk
      cases h
      have e1 := hx.r
      have e2 := hy.r
      rw [AV.R] at e1
      rw [AV.R] at e2
      refine ⟨rfl, rfl, rfl, _, ?_, by rw [AV.R]⟩
      unfold execOp
      cases mx
      · simp [ho, resolve, hc, ha, invoke, builtin, Builtin.min_, Builtin.min2, e1, e2]
      · simp [ho, resolve, hc, ha, invoke, builtin, Builtin.max_, Builtin.max2, e1, e2]
    · cases h
  · cases h
theorem s_func {f : FuncId} {first cap : Array Operand} {X : List AV} (ho : o.op = .makeFunc (.func f) first cap) (hf : first.size = 0) (hx : AV.Rs lim bs w X (cap.toList.map a.eval)) (hfl : AV.flats X = true) (h : yes (.fn f X) cs = some out) : PO P lim bs w a o cs out := by
  have := yes_inv h; subst this
  have h0 : first = #[] := Array.eq_empty_of_size_eq_zero hf
  subst h0
  refine ⟨rfl, rfl, hfl, .func (.func f) #[] (cap.map a.eval), ?_, ?_⟩
  · unfold execOp
    simp [ho, Instr.makeFunc]
  · show AV.R lim bs w (.fn f X) _
    rw [AV.R]
    exact ⟨_, rfl, by simpa using hx⟩
end Ab
end Go.Proofs.YtlmjabnkjmfcmaaGreat
/- A run on abstract values: structs that are built; cells that are laid in. -/
namespace Go.Proofs.YtlmjabnkjmfcmaaGreat
open Go Go.RowKit Go.PlainAid
set_option linter.unusedVariables false
set_option linter.unusedSimpArgs false
namespace Ab
variable {lim : Nat → Nat} {bs : List Nat} {w : World} {P : Program} {T : Tab} {a : Act} {o : Oper} {cs : List (List AV)} {out : Out}
theorem setAt_nil {α : Type} : ∀ (l : List α) (o : Nat), setAt l o [] = l
  | [], o => by rw [setAt]
  | x :: l, 0 => by rw [setAt]
  | x :: l, o + 1 => by rw [setAt, setAt_nil l o]
theorem setAt_len {α : Type} : ∀ (l : List α) (o : Nat) (vs : List α), (setAt l o vs).length = l.length
  | [], o, vs => by rw [setAt]
  | x :: l, 0, [] => by rw [setAt]
  | x :: l, 0, v :: vs => by rw [setAt, List.length_cons, List.length_cons, setAt_len l 0 vs]
  | x :: l, o + 1, vs => by rw [setAt, List.length_cons, List.length_cons, setAt_len l o vs]
theorem setAt_zero {α : Type} (x v : α) (l vs : List α) : setAt (x :: l) 0 (v :: vs) = v :: setAt l 0 vs := by rw [setAt]
theorem setAt_succ {α : Type} (x : α) (l vs : List α) (o : Nat) : setAt (x :: l) (o + 1) vs = x :: setAt l o vs := by rw [setAt]
theorem setAt_set {α : Type} : ∀ (l : List α) (o : Nat) (v : α) (vs : List α), o < l.length → setAt (l.set o v) (o + 1) vs = setAt l o (v :: vs)
  | [], o, v, vs, h => by simp at h
  | x :: l, 0, v, vs, h => by rw [List.set_cons_zero, setAt_succ, setAt_zero]
  | x :: l, o + 1, v, vs, h => by
    rw [List.set_cons_succ, setAt_succ, setAt_succ, setAt_set l o v vs (by simpa using h)]
theorem foldl_set (off : Nat) : ∀ (xs : List Value) (k : Nat) (V : Array Value), off + k + xs.length ≤ V.size →
    ((xs.zipIdx k).foldl (fun (cs : Array Value) x => cs.setIfInBounds (off + x.2) x.1) V).toList = setAt V.toList (off + k) xs
  | [], k, V, h => by simp [setAt_nil]
  | x :: xs, k, V, h => by
    rw [List.length_cons] at h
    rw [List.zipIdx_cons, List.foldl_cons, foldl_set off xs (k + 1) _ (by simp; omega)]
    simp only [Array.toList_setIfInBounds]
    rw [← setAt_set V.toList (off + k) x xs (by simp; omega)]
    rfl
theorem zip_foldl (xs : Array Value) (off : Nat) (V : Array Value) (h : off + xs.size ≤ V.size) :
    (xs.zipIdx.foldl (fun (cs : Array Value) (c, j) => cs.setIfInBounds (off + j) c) V).toList = setAt V.toList off xs.toList := by
  have e : xs.zipIdx = (xs.toList.zipIdx 0).toArray := by rw [← Array.toList_inj]; simp
  rw [e, List.foldl_toArray]
  have := foldl_set off xs.toList 0 V (by simpa using h)
  rw [Nat.add_zero] at this
  exact this
theorem Rs_setAt : ∀ {l : List AV} {c : List Value} {o : Nat} {x : List AV} {u : List Value}, AV.Rs lim bs w l c → AV.Rs lim bs w x u → AV.Rs lim bs w (setAt l o x) (setAt c o u)
  | [], c, o, x, u, h, h2 => by
    rw [AV.Rs] at h; subst h
    rw [setAt, setAt, AV.Rs]
  | y :: l, c, 0, [], u, h, h2 => by
    rw [AV.Rs] at h2; subst h2
    rw [setAt_nil, setAt_nil]; exact h
  | y :: l, c, 0, z :: x, u, h, h2 => by
    rw [AV.Rs] at h h2
    obtain ⟨v, r, rfl, h3, h4⟩ := h
    obtain ⟨v', r', rfl, h5, h6⟩ := h2
    rw [setAt_zero, setAt_zero, AV.Rs]
    exact ⟨v', _, rfl, h5, Rs_setAt h4 h6⟩
  | y :: l, c, o + 1, x, u, h, h2 => by
    rw [AV.Rs] at h
    obtain ⟨v, r, rfl, h3, h4⟩ := h
    rw [setAt_succ, setAt_succ, AV.Rs]
    exact ⟨v, _, rfl, h3, Rs_setAt h4 h2⟩
theorem flats_setAt : ∀ {l : List AV} {o : Nat} {x : List AV}, AV.flats l = true → AV.flats x = true → AV.flats (setAt l o x) = true
  | [], o, x, h, h2 => by rw [setAt]; exact h
  | y :: l, 0, [], h, h2 => by rw [setAt_nil]; exact h
  | y :: l, 0, z :: x, h, h2 => by
    rw [AV.flats, Bool.and_eq_true] at h h2
    rw [setAt_zero, AV.flats, h2.1, flats_setAt h.2 h2.2]; rfl
  | y :: l, o + 1, x, h, h2 => by
    rw [AV.flats, Bool.and_eq_true] at h
    rw [setAt_succ, AV.flats, h.1, flats_setAt h.2 h2]; rfl
theorem tops_setAt : ∀ {l : List AV} {o : Nat} {x : List AV}, l.all AV.top = true → x.all AV.top = true → (setAt l o x).all AV.top = true
  | [], o, x, h, h2 => by rw [setAt]; exact h
  | y :: l, 0, [], h, h2 => by rw [setAt_nil]; exact h
  | y :: l, 0, z :: x, h, h2 => by
    rw [List.all_cons, Bool.and_eq_true] at h h2
    rw [setAt_zero, List.all_cons, h2.1, tops_setAt h.2 h2.2]; rfl
  | y :: l, o + 1, x, h, h2 => by
    rw [List.all_cons, Bool.and_eq_true] at h
    rw [setAt_succ, List.all_cons, h.1, tops_setAt h.2 h2]; rfl
theorem tops_of_flats : ∀ {l : List AV}, AV.flats l = true → l.all AV.top = true
  | [], _ => rfl
  | x :: l, h => by
    rw [AV.flats, Bool.and_eq_true] at h
    rw [List.all_cons, tops_of_flats h.2, AV.top, h.1]; simp
/-- A value's cells are those of what it is told as. -/
theorem cells_R {v : AV} {u : Value} (h1 : ones (cells v) = true) (h : AV.R lim bs w v u) : AV.Rs lim bs w (cells v) u.cells.toList := by
  cases v with
  | agg l => rw [AV.R] at h; obtain ⟨vs, rfl, h2⟩ := h; exact h2
  | bool b => rw [AV.R] at h; subst h; rw [cells, AV.Rs]; exact ⟨_, [], rfl, by rw [AV.R], by rw [AV.Rs]⟩; intros; simp_all
  | int k n => rw [AV.R] at h; subst h; rw [cells, AV.Rs]; exact ⟨_, [], rfl, by rw [AV.R], by rw [AV.Rs]⟩; intros; simp_all
  | str s => rw [AV.R] at h; subst h; rw [cells, AV.Rs]; exact ⟨_, [], rfl, by rw [AV.R], by rw [AV.Rs]⟩; intros; simp_all
  | nil => rw [AV.R] at h; subst h; rw [cells, AV.Rs]; exact ⟨_, [], rfl, by rw [AV.R], by rw [AV.Rs]⟩; intros; simp_all
  | bad => cases h1
  | tup l => cases h1
  | nz k => have h' := h; rw [AV.R] at h'; obtain ⟨n, -, rfl⟩ := h'; rw [cells, AV.Rs]; exact ⟨_, [], rfl, h, by rw [AV.Rs]⟩; intros; simp_all
  | unk k => have h' := h; rw [AV.R] at h'; obtain ⟨n, rfl⟩ := h'; rw [cells, AV.Rs]; exact ⟨_, [], rfl, h, by rw [AV.Rs]⟩; intros; simp_all
  | low k d m => have h' := h; rw [AV.R] at h'; obtain ⟨n, -, rfl⟩ := h'; rw [cells, AV.Rs]; exact ⟨_, [], rfl, h, by rw [AV.Rs]⟩; intros; simp_all
  | bsl i e z n => have h' := h; rw [AV.R] at h'; obtain ⟨b, c, cur, -, -, -, -, -, rfl⟩ := h'; rw [cells, AV.Rs]; exact ⟨_, [], rfl, h, by rw [AV.Rs]⟩; intros; simp_all
  | ptr i o => have h' := h; rw [AV.R] at h'; obtain ⟨b, -, rfl⟩ := h'; rw [cells, AV.Rs]; exact ⟨_, [], rfl, h, by rw [AV.Rs]⟩; intros; simp_all
  | el l => have h' := h; rw [AV.R] at h'; obtain ⟨b, o', rfl, -⟩ := h'; rw [cells, AV.Rs]; exact ⟨_, [], rfl, h, by rw [AV.Rs]⟩; intros; simp_all
  | sl n l => have h' := h; rw [AV.R] at h'; obtain ⟨b, o', rfl, -⟩ := h'; rw [cells, AV.Rs]; exact ⟨_, [], rfl, h, by rw [AV.Rs]⟩; intros; simp_all
  | fn f c => have h' := h; rw [AV.R] at h'; obtain ⟨vs, rfl, -⟩ := h'; rw [cells, AV.Rs]; exact ⟨_, [], rfl, h, by rw [AV.Rs]⟩; intros; simp_all
  | row e z n l =>
    have h' := h
    rw [AV.R] at h'
    obtain ⟨-, -, h3⟩ := h'
    have hu : u.cells.toList = [u] := by
      rcases h3 with ⟨rfl, -⟩ | ⟨g, c, cur, rfl, -⟩ <;> rfl
    rw [hu, cells, AV.Rs]
    exact ⟨_, [], rfl, h, by rw [AV.Rs]⟩
    intros; simp_all
theorem one_R {v : AV} {u : Value} (h1 : v.one = true) (h : AV.R lim bs w v u) : u.oneCell' = true := by
  cases v with
  | agg l => cases h1
  | bad => cases h1
  | tup l => cases h1
  | bool b => rw [AV.R] at h; subst h; rfl
  | int k n => rw [AV.R] at h; subst h; rfl
  | str s => rw [AV.R] at h; subst h; rfl
  | nil => rw [AV.R] at h; subst h; rfl
  | nz k => rw [AV.R] at h; obtain ⟨n, -, rfl⟩ := h; rfl
  | unk k => rw [AV.R] at h; obtain ⟨n, rfl⟩ := h; rfl
  | low k d m => rw [AV.R] at h; obtain ⟨n, -, rfl⟩ := h; rfl
  | bsl i e z n => rw [AV.R] at h; obtain ⟨b, c, cur, -, -, -, -, -, rfl⟩ := h; rfl
  | ptr i o => rw [AV.R] at h; obtain ⟨b, -, rfl⟩ := h; rfl
  | el l => rw [AV.R] at h; obtain ⟨b, o', rfl, -⟩ := h; rfl
  | sl n l => rw [AV.R] at h; obtain ⟨b, o', rfl, -⟩ := h; rfl
  | fn f c => rw [AV.R] at h; obtain ⟨vs, rfl, -⟩ := h; rfl
  | row e z n l =>
    rw [AV.R] at h
    obtain ⟨-, -, h3⟩ := h
    rcases h3 with ⟨rfl, -⟩ | ⟨g, c, cur, rfl, -⟩ <;> rfl
theorem ones_R : ∀ {l : List AV} {c : List Value}, ones l = true → AV.Rs lim bs w l c → ∀ v ∈ c, v.oneCell' = true
  | [], c, _, h, v, hv => by rw [AV.Rs] at h; subst h; cases hv
  | x :: l, c, h1, h, v, hv => by
    rw [AV.Rs] at h
    rw [ones, Bool.and_eq_true] at h1
    obtain ⟨u, r, rfl, h2, h3⟩ := h
    rcases List.mem_cons.1 hv with rfl | hv
    · exact one_R h1.1 h2
    · exact ones_R h1.2 h3 v hv
/-- Parts, and what they are told as. -/
inductive Ps (lim : Nat → Nat) (bs : List Nat) (w : World) : List (Nat × AV) → List (Nat × Value) → Prop
  | nil : Ps lim bs w [] []
  | cons {i : Nat} {x : AV} {u : Value} {ps : List (Nat × AV)} {vs : List (Nat × Value)} (h : Av lim bs w x u) (hr : Ps lim bs w ps vs) : Ps lim bs w ((i, x.dem) :: ps) ((i, u) :: vs)
theorem fill_R {offs : List (Nat × Nat × Bool)} {place : Nat → Option (Nat × Nat)} (hp : ∀ (i : Nat) (q : Nat × Nat × Bool), offs[i]? = some q → place i = some (q.1, q.2.1)) :
    ∀ {ps : List (Nat × AV)} {vs : List (Nat × Value)} {c : List AV} {V : Array Value} {l : List AV}, Ps lim bs w ps vs → AV.Rs lim bs w c V.toList → AV.flats c = true → fillIn offs c ps = some l → ∃ V', Instr.fill place V vs = some V' ∧ AV.Rs lim bs w l V'.toList ∧ AV.flats l = true := by
  intro ps vs c V l hps
  induction hps generalizing c V l with
  | nil => intro hc hf h; rw [fillIn] at h; cases h; exact ⟨V, rfl, hc, hf⟩
  | @cons i x u ps vs hx hr ih =>
    intro hc hf h
    rw [fillIn] at h
    split at h
    · cases h
    · rename_i o' n b hq
      split at h
      · rename_i hk
        obtain ⟨h1, h2, h3, h4⟩ := hk
        have hcells := cells_R h4 hx.r.dem
        have hlen := AV.Rs_len hcells
        have hsz : u.cells.size = n := by
          have : u.cells.toList.length = n := by rw [hlen, h1]
          simpa using this
        have hVl : V.size = c.length := by have := AV.Rs_len hc; simpa using this
        have hfl : AV.flats (cells x.dem) = true := by
          have : ∀ y : AV, y.flat = true → AV.flats (cells y) = true := by
            intro y hy
            cases y <;> first
              | (show AV.flats [_] = true; rw [AV.flats, hy]; rfl)
              | exact hy
          exact this _ h3
        have hfold := zip_foldl u.cells o' V (by omega)
        obtain ⟨V', e1, e2, e3⟩ := ih (V := u.cells.zipIdx.foldl (fun (cs : Array Value) (c, j) => cs.setIfInBounds (o' + j) c) V) (by rw [hfold]; exact Rs_setAt hc hcells) (flats_setAt hf hfl) h
        refine ⟨V', ?_, e2, e3⟩
        rw [Instr.fill, hp i _ hq]
        simp only []
        rw [if_neg (by simp [hsz]; omega)]
        exact e1
      · cases h
theorem s_build (HT : TOK P T) {t : Nat} {d : TD} {ps : Array (Nat × Operand)} {X : List (Nat × AV)} (ho : o.op = .build t ps) (ht : T t = some d) (hx : Ps lim bs w X (ps.toList.map fun p => (p.1, a.eval p.2))) (h : cBuild d X cs = some out) (hok : out.ok = true) : PO P lim bs w a o cs out := by
  unfold cBuild at h
  split at h
  · cases h
  · rename_i l hl
    have := yesIf_inv h; subst this
    obtain ⟨ha, hfl⟩ : d.agg = true ∧ AV.flats l = true := by simpa using hok
    obtain ⟨fs, hu, hn, hf⟩ := HT.fld t d ht ha
    obtain ⟨i, z, hi, hs, hby, hz, hzc, hzr⟩ := HT.info t d ht
    have hzn := zrs_nils (lim := lim) (bs := bs) (w := w) hzr
    obtain ⟨pl, hpl0⟩ : ∃ pl : Field → Sem (Nat × Nat), pl = fun f => (do pure (f.offset, ← sizeOf f.type) : Sem (Nat × Nat)) := ⟨_, rfl⟩
    have hpl : ∀ (f : Field) (i : TypeInfo), P.info? f.type = some i → (pl f).run P w = .ok (f.offset, ((P.info? f.type).map (·.size)).getD 0) w := by
      intro f i hi
      rw [hpl0]
      simp only [Sem.run_bind, run_sizeOf hi w, Result.andThen_ok, Sem.run_pure, hi, Option.map_some, Option.getD_some]
    have hplaces : ∀ (fl : List Field), (∀ f ∈ fl, ∃ i, P.info? f.type = some i) → (fl.mapM pl).run P w = .ok (fl.map fun f => (f.offset, ((P.info? f.type).map (·.size)).getD 0)) w := by
      intro fl
      induction fl with
      | nil => intro _; rfl
      | cons f fl ih =>
        intro hh
        obtain ⟨i, hi⟩ := hh f List.mem_cons_self
        have h2 := ih (fun g hg => hh g (List.mem_cons_of_mem _ hg))
        simp only [List.mapM_cons, Sem.run_bind, hpl f i hi, h2, Result.andThen_ok, Sem.run_pure, List.map_cons]
    have hall : ∀ f ∈ fs.toList, ∃ i, P.info? f.type = some i := by
      intro f hf2
      obtain ⟨k, hk, rfl⟩ := List.getElem_of_mem hf2
      have hk2 : k < d.offs.length := by rw [← hn]; simpa using hk
      obtain ⟨fl, i, u, g1, g2, g3, -⟩ := hf k (d.offs[k]) (List.getElem?_eq_getElem hk2)
      have : fs[k]? = some (fs.toList[k]) := by simp
      rw [this] at g1; cases g1
      exact ⟨i, g3⟩
    have hrunp : (fs.mapM pl).run P w = .ok ((fs.toList.map fun f => (f.offset, ((P.info? f.type).map (·.size)).getD 0)).toArray) w := by
      rw [Array.mapM_eq_mapM_toList, map_eq_pure_bind, Sem.run_bind, hplaces fs.toList hall]
      rfl
    rw [hpl0] at hrunp
    have hp : ∀ (i : Nat) (q : Nat × Nat × Bool), d.offs[i]? = some q → ((fs.toList.map fun f => (f.offset, ((P.info? f.type).map (·.size)).getD 0)).toArray[·]?) i = some (q.1, q.2.1) := by
      intro k q hq
      obtain ⟨fl, i, u, g1, g2, g3, g4, -⟩ := hf k q hq
      have g5 : fs.toList[k]? = some fl := by simpa using g1
      simp [g1, g2, g3, g4]
    obtain ⟨V', e1, e2, e3⟩ := fill_R hp hx (V := z.cells) hzn.1 hzn.2 hl
    refine ⟨rfl, rfl, hfl, .agg V', ?_, by rw [AV.R]; exact ⟨_, rfl, e2⟩⟩
    unfold execOp
    have hzv : (zeroValue t).run P w = .ok z w := by simp [zeroValue, typeInfo, hi, hz]
    simp only [ho, Instr.build, Sem.run_bind, hzv, Sem.run_pure, Result.andThen_ok, run_underlying hu, hrunp, Array.toList_map, e1]
end Ab
end Go.Proofs.YtlmjabnkjmfcmaaGreat
/- A run on abstract values: operations that turn memory, or hand over a slice of one's own. -/
namespace Go.Proofs.YtlmjabnkjmfcmaaGreat
open Go Go.RowKit Go.PlainAid
set_option linter.unusedVariables false
set_option linter.unusedSimpArgs false
namespace Ab
variable {lim lim' : Nat → Nat} {bs bs' : List Nat} {w w' : World} {P : Program} {T : Tab} {a : Act} {o : Oper} {cs : List (List AV)} {out : Out} {m : Nat → Prop} {bx bx' : List (List AV)} {S S' : Slots} {K : Act → World → Prop} {Q : Exit → Act → World → Prop} {cal : Cal} {σ σ' : ASt}
/-- What must be shown of what follows an operation. -/
structure Goes (m : Nat → Prop) (lim : Nat → Nat) (bs : List Nat) (w : World) (a : Act) (σ' : ASt) (lim' : Nat → Nat) (bs' : List Nat) (w' : World) (a' : Act) : Prop where
  hold : Hold lim' bs' w' σ'.bx (Sl σ'.tm a') m
  fr : Fr m lim w lim' w'
  pre : ∀ (i b : Nat), bs[i]? = some b → bs'[i]? = some b
  nt : a'.tmps.size = a.tmps.size
  df : a'.defers = a.defers
abbrev Kont (m : Nat → Prop) (lim : Nat → Nat) (bs : List Nat) (w : World) (a : Act) (σ' : ASt) (K : Act → World → Prop) : Prop := ∀ lim' bs' w' a', Goes m lim bs w a σ' lim' bs' w' a' → K a' w'
theorem wp_val {u : Value} (h : (execOp a.eval o).run P w = .ok (.value u) w') (hK : K (a.put o.dst u) w') : o.wp P a w K Q := by
  unfold Oper.wp; rw [h]; exact hK
theorem wp_skp (h : (execOp a.eval o).run P w = .ok .skip w') (hK : K (a.put o.dst undef) w') : o.wp P a w K Q := by
  unfold Oper.wp; rw [h]; exact hK
theorem put_size (a : Act) (d : Option Nat) (u : Value) : (a.put d u).tmps.size = a.tmps.size := by
  cases d <;> simp [Act.put]
theorem put_defers (a : Act) (d : Option Nat) (u : Value) : (a.put d u).defers = a.defers := by
  cases d <;> rfl
def upD (S : Slots) (d : Option Nat) (x : AV × Value) : Slots :=
  match d with
  | some d => up S d x
  | none => S
theorem Sl_putD {tm : Tm} {d : Option Nat} (hd : ∀ k, d = some k → k < a.tmps.size) (v : AV) (u : Value) : Sl (putD tm d v) (a.put d u) = upD (Sl tm a) d (v, u) := by
  cases d with
  | none => rfl
  | some k => exact Sl_put (hd k rfl) v u
theorem Hold.putD (H : Hold lim bs w bx S m) {d : Option Nat} {v : AV} {u : Value} (hv : AV.R lim bs w v u) (ht : v.top = true)
    (hrow : ∀ k g, d = some k → v.isRow = true → u.ownBlock = some g → m g ∧ g ∉ bs ∧ ∀ p, Own w bs bx S p g → p = .t k) : Hold lim bs w bx (upD S d (v, u)) m := by
  cases d with
  | none => exact H
  | some k => exact H.put hv ht (fun g => hrow k g rfl)
theorem dem_row (x : AV) : x.dem.isRow = false := by cases x <;> rfl
theorem get_give : ∀ (ks : List Nat) (tm : Tm) (n : Nat), (get (give tm ks) n = get tm n ∨ get (give tm ks) n = (get tm n).dem) ∧ (n ∈ ks → (get (give tm ks) n).isRow = false)
  | [], tm, n => ⟨.inl rfl, fun h => by cases h⟩
  | t :: r, tm, n => by
    have hdd : ∀ x : AV, x.dem.dem = x.dem := fun x => by cases x <;> rfl
    rw [give]
    split
    · rename_i e z k l hrow
      have ih := get_give r (put tm t (.sl k l)) n
      have hp := get_put tm t (.sl k l) n
      by_cases h : n = t
      · subst h
        rw [if_pos rfl] at hp
        rw [hp] at ih
        have h1 : get (give (put tm n (.sl k l)) r) n = (get tm n).dem := by
          rw [hrow]
          rcases ih.1 with h | h
          · exact h
          · exact h
        exact ⟨.inr h1, fun _ => by rw [h1]; exact dem_row _⟩
      · rw [if_neg h] at hp
        rw [hp] at ih
        exact ⟨ih.1, fun hm => ih.2 (by rcases List.mem_cons.1 hm with e | e; exact absurd e h; exact e)⟩
    · rename_i hno
      have ih := get_give r tm n
      refine ⟨ih.1, fun hm => ?_⟩
      rcases List.mem_cons.1 hm with e | e
      · subst e
        have hr : (get tm n).isRow = false := by
          cases hx : get tm n <;> first | rfl | exact absurd hx (hno _ _ _ _)
        rcases ih.1 with h | h
        · rw [h]; exact hr
        · rw [h]; exact dem_row _
      · exact ih.2 e
theorem sub_give (H : Hold lim bs w bx (Sl σ.tm a) m) (ks : List Nat) : Hold lim bs w bx (Sl (give σ.tm ks) a) m ∧ (∀ p g, Own w bs bx (Sl (give σ.tm ks) a) p g → Own w bs bx (Sl σ.tm a) p g) ∧ ∀ t g, t ∈ ks → ¬ Own w bs bx (Sl (give σ.tm ks) a) (.t t) g := by
  have h := H.sub (S' := Sl (give σ.tm ks) a) (fun k => ⟨rfl, (get_give ks σ.tm k).1.elim .inl (fun h => .inr (.inl h))⟩)
  refine ⟨h.1, h.2, fun t g ht ho => ?_⟩
  have := (get_give ks σ.tm t).2 ht
  have h1 : (get (give σ.tm ks) t).isRow = true := ho.1
  rw [this] at h1; cases h1
theorem setMany_nil (bx : List (List AV)) (cs : List (List AV)) : setMany bx [] cs = bx := by unfold setMany; rfl
/-- An operation that only yields a value. -/
theorem pure_goes (H : Hold lim bs w σ.bx (Sl σ.tm a) m) (hd : ∀ k, o.dst = some k → k < a.tmps.size) (h : PO P lim bs w a o cs out) (gv : List Nat) (hK : Kont m lim bs w a (fin o.dst out [] gv σ) K) : o.wp P a w K Q := by
  obtain ⟨u, h1, h2⟩ := h.run
  refine wp_val h1 (hK lim bs w _ ⟨?_, Fr.refl, fun _ _ h => h, put_size _ _ _, put_defers _ _ _⟩)
  have hr : out.v.isRow = false := flat_row h.fl
  unfold fin
  rw [h.nw]
  show Hold lim bs w (setMany σ.bx [] out.bs ++ []) (Sl (putD (give σ.tm gv) o.dst out.v) (a.put o.dst u)) m
  rw [List.append_nil, setMany_nil, Sl_putD hd]
  exact (sub_give H gv).1.putD h2 (by rw [AV.top, h.fl]; simp) (fun k g _ hh => by rw [hr] at hh; cases hh)
/-- A value goes over from a temporary. -/
theorem move_goes (H : Hold lim bs w σ.bx (Sl σ.tm a) m) (hd : ∀ k, o.dst = some k → k < a.tmps.size) {x : Operand} {v : AV} (ho : o.op = .move x ∨ o.op = .assign x) (hv : AV.R lim bs w v (a.eval x)) (ht : v.top = true)
    (hsrc : v.isRow = true → (∃ t, x = .tmp t ∧ v = get σ.tm t) ∨ (a.eval x).ownBlock = none) (hK : Kont m lim bs w a (fin o.dst ⟨v, cs, [], true⟩ [] (tmpOf x) σ) K) : o.wp P a w K Q := by
  have hrun : (execOp a.eval o).run P w = .ok (.value (a.eval x)) w := by
    unfold execOp
    rcases ho with ho | ho <;> simp only [ho] <;> rfl
  refine wp_val hrun (hK lim bs w _ ⟨?_, Fr.refl, fun _ _ h => h, put_size _ _ _, put_defers _ _ _⟩)
  show Hold lim bs w (setMany σ.bx [] cs ++ []) (Sl (putD (give σ.tm (tmpOf x)) o.dst v) (a.put o.dst (a.eval x))) m
  rw [List.append_nil, setMany_nil, Sl_putD hd]
  obtain ⟨H2, h3, h4⟩ := sub_give H (tmpOf x)
  refine H2.putD hv ht (fun k g _ hr hg => ?_)
  rcases hsrc hr with ⟨t, rfl, hvt⟩ | hn
  · have ho1 : Own w bs σ.bx (Sl σ.tm a) (.t t) g := ⟨by show (get σ.tm t).isRow = true; rw [← hvt]; exact hr, hg⟩
    refine ⟨(H.own _ _ ho1).1, (H.own _ _ ho1).2, fun p hp => ?_⟩
    have := H.dist p (.t t) g (h3 p g hp) ho1
    subst this
    exact absurd hp (h4 t g (by simp [tmpOf]))
  · rw [hn] at hg; cases hg
theorem own_of_src {H : Hold lim bs w bx S m} (src : Loc → Loc) (h1 : ∀ p g, Own w' bs' bx' S' p g → Own w bs bx S (src p) g) (h2 : ∀ p q g, Own w' bs' bx' S' p g → Own w' bs' bx' S' q g → src p = src q → p = q) :
    (∀ p g, Own w' bs' bx' S' p g → m g ∧ g ∉ bs) ∧ (∀ p q g, Own w' bs' bx' S' p g → Own w' bs' bx' S' q g → p = q) :=
  ⟨fun p g hp => H.own _ g (h1 p g hp), fun p q g hp hq => h2 p q g hp hq (H.dist _ _ g (h1 p g hp) (h1 q g hq))⟩
theorem conts_one {bx : List (List AV)} {i : Nat} {cs : List (List AV)} (h : conts bx [i] = some cs) : ∃ c, bx[i]? = some c ∧ cs = [c] := by
  unfold conts at h
  split at h
  · rename_i c cs' hc hcs
    unfold conts at hcs
    cases hcs; cases h
    exact ⟨c, hc, rfl⟩
  · cases h
theorem setMany_one (bx : List (List AV)) (i : Nat) (c : List AV) : setMany bx [i] [c] = bx.set i c := by
  rw [setMany, setMany_nil]
theorem set_same {α : Type} {l : List α} {i : Nat} {c : α} (h : l[i]? = some c) : l.set i c = l := by
  apply List.ext_getElem?
  intro k
  rw [List.getElem?_set]
  split
  · rename_i e; subst e
    split
    · exact h.symm
    · rename_i hlt; rw [List.getElem?_eq_none (by omega)]
  · rfl
theorem getElem?_setAt {α : Type} : ∀ (l : List α) (o j : Nat) (vs : List α), (setAt l o vs)[j]? = if o ≤ j ∧ j < o + vs.length ∧ j < l.length then vs[j - o]? else l[j]?
  | [], o, j, vs => by rw [setAt]; simp
  | x :: l, 0, j, [] => by rw [setAt_nil]; simp
  | x :: l, 0, 0, v :: vs => by rw [setAt_zero]; simp
  | x :: l, 0, j + 1, v :: vs => by
    rw [setAt_zero, List.getElem?_cons_succ, getElem?_setAt l 0 j vs]
    simp only [List.length_cons, List.getElem?_cons_succ, Nat.zero_le, true_and, Nat.zero_add, Nat.sub_zero, Nat.add_lt_add_iff_right]
  | x :: l, o + 1, 0, vs => by rw [setAt_succ]; simp
  | x :: l, o + 1, j + 1, vs => by
    rw [setAt_succ, List.getElem?_cons_succ, getElem?_setAt l o j vs, List.getElem?_cons_succ]
    have e : j + 1 - (o + 1) = j - o := by omega
    have c : (o + 1 ≤ j + 1 ∧ j + 1 < o + 1 + vs.length ∧ j + 1 < (x :: l).length) ↔ (o ≤ j ∧ j < o + vs.length ∧ j < l.length) := by
      rw [List.length_cons]; omega
    simp only [c, e]
theorem nodup_inj : ∀ {l : List Nat} {i j x : Nat}, l.Nodup → l[i]? = some x → l[j]? = some x → i = j
  | [], i, j, x, _, h, _ => by simp at h
  | y :: l, 0, 0, x, _, _, _ => rfl
  | y :: l, 0, j + 1, x, hn, h1, h2 => by
    rw [List.nodup_cons] at hn
    simp at h1 h2
    subst h1
    exact absurd (List.mem_of_getElem? h2) hn.1
  | y :: l, i + 1, 0, x, hn, h1, h2 => by
    rw [List.nodup_cons] at hn
    simp at h1 h2
    subst h2
    exact absurd (List.mem_of_getElem? h1) hn.1
  | y :: l, i + 1, j + 1, x, hn, h1, h2 => by
    rw [List.nodup_cons] at hn
    exact congrArg (· + 1) (nodup_inj (x := x) hn.2 (by simpa using h1) (by simpa using h2))
/-- A box of whose cells one has been turned in what is told of it (the world stands), or in the world. -/
theorem Hold.setBox (H : Hold lim bs w bx S m) {i b : Nat} {c c' : List AV} {V' tl : List Value} {t : TypeId} (hi : bs[i]? = some b) (hc : bx[i]? = some c) (hV : w'.heap[b]? = some (.cells (V' ++ tl).toArray t (0, 0))) (hsh : ∃ cur : Array Value, w.heap[b]? = some (.cells cur t (0, 0)) ∧ cur.size = (V' ++ tl).length) (ho : ∀ k, k ≠ b → w'.heap[k]? = w.heap[k]?) (hs : w'.heap.size = w.heap.size)
    (hR : AV.Rs lim bs w' c' V') (ht : c'.all AV.top = true) (hS : ∀ k, AV.R lim bs w' (S' k).1 (S' k).2 ∧ (S' k).1.top = true)
    (src : Loc → Loc) (h1 : ∀ p g, Own w' bs (bx.set i c') S' p g → Own w bs bx S (src p) g) (h2 : ∀ p q g, Own w' bs (bx.set i c') S' p g → Own w' bs (bx.set i c') S' q g → src p = src q → p = q) :
    Hold lim bs w' (bx.set i c') S' m := by
  obtain ⟨h3, h4⟩ := own_of_src (H := H) src h1 h2
  have hmem : b ∈ bs := List.mem_of_getElem? hi
  have hext : AV.Ext lim bs w lim bs w' := ⟨fun _ _ h => h, by omega, fun _ _ => Nat.le_refl _, fun k j hk hj => World.cell?_of_block (ho k (fun e => by subst e; rw [H.free k hmem] at hj; omega)), fun k cur e p hk => by
    by_cases hkb : k = b
    · subst hkb
      obtain ⟨cur0, q1, q2⟩ := hsh
      rw [q1] at hk; cases hk
      exact ⟨_, hV, by simpa using q2.symm⟩
    · exact ⟨cur, (ho k hkb).trans hk, rfl⟩⟩
  refine ⟨by rw [List.length_set]; exact H.len, H.nod, H.free, H.mb, fun i2 b2 x hi2 hx2 => ?_, fun k => (hS k).1, fun k => (hS k).2, fun k hk => H.top k (by omega), h3, h4⟩
  rw [List.getElem?_set] at hx2
  split at hx2
  · rename_i e; subst e
    split at hx2
    · cases hx2
      rw [hi] at hi2; cases hi2
      exact ⟨V', tl, t, hV, hR, ht⟩
    · cases hx2
  · rename_i e
    have hne : b2 ≠ b := by
      rintro rfl
      exact e (nodup_inj H.nod hi hi2)
    obtain ⟨C, tl2, t2, g1, g2, g3⟩ := H.box i2 b2 x hi2 hx2
    refine ⟨C, tl2, t2, (ho b2 hne).trans g1, Rs_keep hext g3 (fun j y v g hy hv hr hg => ?_) g2, g3⟩
    have hown : Own w bs bx S (.b i2 j) g := ⟨b2, x, y, v, hi2, hx2, hy, hr, heap_cellP g1 hv, hg⟩
    exact ⟨ho g (fun e => by subst e; exact (H.own _ _ hown).2 hmem), rfl⟩
/-- What is loaded from a box. -/
theorem load_goes (HT : TOK P T) (H : Hold lim bs w σ.bx (Sl σ.tm a) m) (hd : ∀ k, o.dst = some k → k < a.tmps.size) {t : Nat} {x : Operand} {d : TD} {i o' : Nat} {c : List AV} {ad : Bool} (ho : o.op = .load t x) (ht : T t = some d) (hx : AV.R lim bs w (.ptr i o') (a.eval x)) (hc : σ.bx[i]? = some c)
    (h : cLoad d ad (.ptr i o') [c] = some out) (hok : out.ok = true) (hdd : ad = true → o.dst.isSome = true) (hK : Kont m lim bs w a (fin o.dst out [i] [] σ) K) : o.wp P a w K Q := by
  rw [AV.R] at hx
  obtain ⟨b, hb, hx⟩ := hx
  obtain ⟨C, tl, tt, h1, h2, h3⟩ := H.box i b c hb hc
  have hcell : ∀ (j : Nat) (v : Value), C[j]? = some v → w.cell? ⟨b, j, none⟩ = some v := fun j v hv => heap_cellP h1 hv
  unfold cLoad at h
  simp only [] at h
  split at h
  · rename_i ha
    have := yesIf_inv h; subst this
    have hl : o' + d.size ≤ c.length := by simpa using hok
    have hlen := AV.Rs_len h2
    have hrun : (execOp a.eval o).run P w = .ok (.value (.agg ((C.drop o').take d.size).toArray)) w := by
      unfold execOp
      simp only [ho, hx]
      have hl2 : ((C.drop o').take d.size).length = d.size := by rw [List.length_take, List.length_drop]; omega
      have hcc : ∀ (j : Nat) (v : Value), ((C.drop o').take d.size)[j]? = some v → w.cell? ⟨b, o' + j, none⟩ = some v := by
        intro j v hj
        rw [List.getElem?_take] at hj
        split at hj
        · rw [List.getElem?_drop] at hj; exact hcell _ v hj
        · cases hj
      rw [Sem.run_bind, run_load_row HT ht ha hl2 hcc]; rfl
    refine wp_val hrun (hK lim bs w _ ⟨?_, Fr.refl, fun _ _ h => h, put_size _ _ _, put_defers _ _ _⟩)
    show Hold lim bs w (setMany σ.bx [i] [c] ++ []) (Sl (putD σ.tm o.dst _) (a.put o.dst _)) m
    rw [List.append_nil, setMany_one, set_same hc, Sl_putD hd]
    have htop : ((c.drop o').take d.size).all AV.top = true := by
      rw [List.all_eq_true] at h3 ⊢
      exact fun y hy => h3 y (List.mem_of_mem_drop (List.mem_of_mem_take hy))
    refine H.putD ?_ ?_ (fun k g _ hh => by cases hh)
    · rw [AV.R]
      exact ⟨_, rfl, by simpa using Rs_map_dem (Rs_take (Rs_drop h2))⟩
    · show (false || AV.flats _) = true
      rw [flats_map_dem htop (Rs_take (Rs_drop h2))]; rfl
  · rename_i ha
    split at h
    · rename_i v hv
      cases h
      obtain ⟨u, e1, e2⟩ := Rs_get h2 hv
      obtain ⟨ud, hu, hr, -⟩ := HT.und t d ht
      have hvt : v.top = true := by
        rw [List.all_eq_true] at h3
        exact h3 v (List.mem_of_getElem? hv)
      have hrun : (execOp a.eval o).run P w = .ok (.value u) w := by
        unfold execOp
        simp only [ho, hx]
        rw [Sem.run_bind, run_load_one hu (by rw [hr]; simpa using ha) (hcell o' u e1)]; rfl
      refine wp_val hrun (hK lim bs w _ ⟨?_, Fr.refl, fun _ _ h => h, put_size _ _ _, put_defers _ _ _⟩)
      show Hold lim bs w (setMany σ.bx [i] [if ad = true then setAt c o' [v.dem] else c] ++ []) (Sl (putD σ.tm o.dst (if ad = true then v else v.dem)) (a.put o.dst u)) m
      rw [List.append_nil, setMany_one, Sl_putD hd]
      cases ad with
      | false =>
        simp only [Bool.false_eq_true, if_false]
        rw [set_same hc]
        exact H.putD e2.dem (by rw [AV.top, AV.R.dem_flat hvt e2]; simp) (fun k g _ hh => by rw [dem_row] at hh; cases hh)
      | true =>
        simp only [if_true]
        obtain ⟨dk, hdk⟩ := Option.isSome_iff_exists.1 (hdd rfl)
        rw [hdk]
        show Hold lim bs w _ (up (Sl σ.tm a) dk (v, u)) m
        have hol : o' < c.length := by
          rcases Nat.lt_or_ge o' c.length with h' | h'
          · exact h'
          · rw [List.getElem?_eq_none h'] at hv; cases hv
        have hgetn : ∀ j, (setAt c o' [v.dem])[j]? = if j = o' then some v.dem else c[j]? := by
          intro j
          rw [getElem?_setAt]
          by_cases e : j = o'
          · subst e; rw [if_pos ⟨Nat.le_refl _, by simp, hol⟩, if_pos rfl]; simp
          · rw [if_neg e, if_neg (by simp only [List.length_cons, List.length_nil]; omega)]
        have hvd : AV.R lim bs w v.dem u := e2.dem
        have hV' : setAt C o' [u] = C := by
          apply List.ext_getElem?
          intro j
          rw [getElem?_setAt]
          split
          · rename_i hj
            have : j = o' := by simp only [List.length_cons, List.length_nil] at hj; omega
            subst this
            simp [e1]
          · rfl
        refine H.setBox hb hc h1 ⟨_, h1, by simp⟩ (fun _ _ => rfl) rfl ?_ ?_ ?_ (fun p => match p with | .t k => if k = dk then (if v.isRow = true then .b i o' else .t k) else .t k | p => p) ?_ ?_
        · have := Rs_setAt (o := o') h2 (show AV.Rs lim bs w [v.dem] [u] by rw [AV.Rs]; exact ⟨u, [], rfl, hvd, by rw [AV.Rs]⟩)
          rw [hV'] at this; exact this
        · exact tops_setAt h3 (by rw [List.all_cons, AV.top, AV.R.dem_flat hvt e2]; simp)
        · intro k
          unfold up
          split
          · exact ⟨e2, hvt⟩
          · exact ⟨H.slot k, H.slotT k⟩
        · intro p g hp
          cases p with
          | t k =>
            obtain ⟨p1, p2⟩ := hp
            unfold up at p1 p2
            by_cases e : k = dk
            · rw [if_pos e] at p1 p2
              simp only [e, if_true]
              have p1' : v.isRow = true := p1
              rw [if_pos p1']
              exact ⟨b, c, v, u, hb, hc, hv, p1, hcell o' u e1, p2⟩
            · rw [if_neg e] at p1 p2
              simp only [e, if_false]
              exact ⟨p1, p2⟩
          | b i2 j =>
            obtain ⟨b2, x2, y2, v2, q1, q2, q3, q4, q5, q6⟩ := hp
            rw [List.getElem?_set] at q2
            split at q2
            · rename_i e; subst e
              split at q2
              · cases q2
                rw [hgetn] at q3
                split at q3
                · cases q3; rw [dem_row] at q4; cases q4
                · exact ⟨b2, c, y2, v2, q1, hc, q3, q4, q5, q6⟩
              · cases q2
            · exact ⟨b2, x2, y2, v2, q1, q2, q3, q4, q5, q6⟩
        · have hno : ∀ g, ¬ Own w bs (σ.bx.set i (setAt c o' [v.dem])) (up (Sl σ.tm a) dk (v, u)) (.b i o') g := by
            rintro g ⟨b2, x2, y2, v2, q1, q2, q3, q4, q5, q6⟩
            rw [List.getElem?_set] at q2
            simp only [if_true] at q2
            split at q2
            · cases q2
              rw [hgetn, if_pos rfl] at q3
              cases q3; rw [dem_row] at q4; cases q4
            · cases q2
          intro p q g hp hq he
          cases p with
          | t k =>
            cases q with
            | t k2 =>
              by_cases e : k = dk
              · by_cases e2 : k2 = dk
                · rw [e, e2]
                · simp only [e, e2, if_true, if_false] at he
                  split at he
                  · cases he
                  · cases he; exact absurd rfl e2
              · by_cases e2 : k2 = dk
                · simp only [e, e2, if_true, if_false] at he
                  split at he
                  · cases he
                  · cases he; exact absurd rfl e
                · simp only [e, e2, if_false] at he
                  exact he
            | b i2 j =>
              simp only [] at he
              split at he
              · split at he
                · rw [← he] at hq; exact absurd hq (hno g)
                · cases he
              · cases he
          | b i2 j =>
            cases q with
            | t k2 =>
              simp only [] at he
              split at he
              · split at he
                · rw [he] at hp; exact absurd hp (hno g)
                · cases he
              · cases he
            | b i3 j3 => exact he
    · cases h
end Ab
end Go.Proofs.YtlmjabnkjmfcmaaGreat
/- A run on abstract values: stores, new variables, literals of slices, append. -/
namespace Go.Proofs.YtlmjabnkjmfcmaaGreat
open Go Go.RowKit Go.PlainAid
set_option linter.unusedVariables false
set_option linter.unusedSimpArgs false
namespace Ab
variable {lim lim' : Nat → Nat} {bs bs' : List Nat} {w w' : World} {P : Program} {T : Tab} {a : Act} {o : Oper} {cs : List (List AV)} {out : Out} {m : Nat → Prop} {bx bx' : List (List AV)} {S S' : Slots} {K : Act → World → Prop} {Q : Exit → Act → World → Prop} {cal : Cal} {σ σ' : ASt}
theorem setCells_at {b : Nat} {t : TypeId} : ∀ (vs cur : List Value) (o : Nat) (w : World), o + vs.length ≤ cur.length → w.heap[b]? = some (.cells cur.toArray t (0, 0)) →
    (w.setCells b o vs).heap[b]? = some (.cells (setAt cur o vs).toArray t (0, 0)) ∧ (∀ k, k ≠ b → (w.setCells b o vs).heap[k]? = w.heap[k]?) ∧ (w.setCells b o vs).heap.size = w.heap.size ∧ Below 0 w (w.setCells b o vs)
  | [], cur, o, w, hl, hb => ⟨by rw [setAt_nil]; exact hb, fun _ _ => rfl, rfl, Below.refl _ _⟩
  | v :: vs, cur, o, w, hl, hb => by
    simp only [List.length_cons] at hl
    have hb2 : (w.setCell ⟨b, o, none⟩ v).heap[b]? = some (.cells (cur.set o v).toArray t (0, 0)) := by
      simp [World.setCell, Array.getElem?_modify, hb]
    obtain ⟨h1, h2, h3, h4⟩ := setCells_at vs (cur.set o v) (o + 1) _ (by simp; omega) hb2
    refine ⟨?_, fun k hk => ?_, ?_, ?_⟩
    · show ((w.setCell ⟨b, o, none⟩ v).setCells b (o + 1) vs).heap[b]? = _
      rw [h1, setAt_set cur o v vs (by omega)]
    · show ((w.setCell ⟨b, o, none⟩ v).setCells b (o + 1) vs).heap[k]? = _
      rw [h2 k hk]; exact Below.heap_setCell w ⟨b, o, none⟩ v k hk
    · show ((w.setCell ⟨b, o, none⟩ v).setCells b (o + 1) vs).heap.size = _
      rw [h3]; simp [World.setCell]
    · exact ((Below.refl 0 w).setCell (p := ⟨b, o, none⟩) (Nat.zero_le _) v).trans h4
theorem setAt_length {α : Type} : ∀ (l : List α) (o : Nat) (vs : List α), (setAt l o vs).length = l.length
  | [], o, vs => by rw [setAt]
  | x :: l, 0, [] => by rw [setAt_nil]
  | x :: l, 0, v :: vs => by rw [setAt_zero, List.length_cons, List.length_cons, setAt_length l 0 vs]
  | x :: l, o + 1, vs => by rw [setAt_succ, List.length_cons, List.length_cons, setAt_length l o vs]
theorem setAt_append {α : Type} : ∀ (l r : List α) (o : Nat) (vs : List α), o + vs.length ≤ l.length → setAt (l ++ r) o vs = setAt l o vs ++ r
  | [], r, o, vs, h => by
    have h' : vs.length = 0 := by rw [List.length_nil] at h; omega
    obtain rfl := List.eq_nil_of_length_eq_zero h'
    rw [setAt_nil, setAt_nil]
  | x :: l, r, 0, [], h => by rw [setAt_nil, setAt_nil]
  | x :: l, r, 0, v :: vs, h => by
    rw [List.cons_append, setAt_zero, setAt_zero, setAt_append l r 0 vs (by simp at h ⊢; omega), List.cons_append]
  | x :: l, r, o + 1, vs, h => by
    rw [List.cons_append, setAt_succ, setAt_succ, setAt_append l r o vs (by simp at h; omega), List.cons_append]
theorem run_store_at {ty b o' : Nat} {i : TypeInfo} {u : Value} {C : List Value} {t : TypeId} (hi : P.info? ty = some i) (hs : u.cells.size = i.size) (hb : w.heap[b]? = some (.cells C.toArray t (0, 0))) (hl : o' + i.size ≤ C.length) (h1 : ∀ v ∈ u.cells.toList, v.oneCell' = true) :
    (Instr.storeAt ty (.pointer (some ⟨b, o', none⟩)) u).run P w = .ok () (w.setCells b o' u.cells.toList) := by
  have hth : w.there b o' u.cells.size := fun j hj => by
    constructor
    · rw [heap_cell4 hb]; simp; omega
    · simp [World.frozen?, hb]
  have := run_storeVar_mid (P := P) w b o' ty u.cells hth (by rw [hi, Option.map_some, hs]) (by rw [Array.all_eq_true_iff_forall_mem]; intro v hv; exact h1 v (by simpa using hv))
  have e : storeVar ty ⟨b, o', none⟩ u = storeVar ty ⟨b, o', none⟩ (.agg u.cells) := rfl
  simp only [Instr.storeAt, Instr.sureAddr, Sem.run_bind, Sem.run_pure, Result.andThen_ok, e, this]
theorem cells_flat {x : AV} (h : x.top = true) (h2 : AV.flats (cells x) = true ∨ x.isRow = false) : x.isRow = true ∨ AV.flats (cells x) = true := by
  cases hr : x.isRow with
  | true => exact .inl rfl
  | false =>
    rw [AV.top, hr, Bool.false_or] at h
    right
    cases x <;> first
      | (show AV.flats [_] = true; rw [AV.flats, h]; rfl)
      | exact h
def tmpLoc (x : Operand) (d : Loc) : Loc :=
  match x with
  | .tmp k => .t k
  | _ => d
/-- What is stored into a box. -/
theorem store_goes (HT : TOK P T) (H : Hold lim bs w σ.bx (Sl σ.tm a) m) (hd : ∀ k, o.dst = some k → k < a.tmps.size) {t : Nat} {p x : Operand} {X : AV} {d : TD} {i o' : Nat} {c : List AV} (ho : o.op = .store t p x) (ht : T t = some d) (hp : AV.R lim bs w (.ptr i o') (a.eval p)) (hx : Av lim bs w X (a.eval x)) (hsrc : X.isRow = true → ∃ k, x = .tmp k ∧ X = get σ.tm k)
    (hc : σ.bx[i]? = some c) (h : cStore T t d (.ptr i o') X [c] = some out) (hok : out.ok = true) (hK : Kont m lim bs w a (fin o.dst out [i] (tmpOf x) σ) K) : o.wp P a w K Q := by
  rw [AV.R] at hp
  obtain ⟨b, hb, hp⟩ := hp
  obtain ⟨C, tl, tt, h1, h2, h3⟩ := H.box i b c hb hc
  have hmem : b ∈ bs := List.mem_of_getElem? hb
  unfold cStore at h
  simp only [] at h
  cases h
  simp only [Bool.and_eq_true, decide_eq_true_eq] at hok
  obtain ⟨⟨e1, e2⟩, e3⟩ := hok
  have hones : ones (cells X) = true := by
    cases ha : d.agg with
    | true => rw [ha, if_pos rfl, Bool.and_eq_true] at e3; exact e3.1
    | false =>
      rw [ha, if_neg (by simp)] at e3
      cases X <;> first | (show ones [_] = true; rw [ones, e3]; rfl) | cases e3
  have hcells := cells_R hones hx.r
  have hlen := AV.Rs_len hcells
  have hlenC := AV.Rs_len h2
  obtain ⟨inf, z, hi, hs, -⟩ := HT.info t d ht
  have hrun : (execOp a.eval o).run P w = .ok .skip (w.setCells b o' (a.eval x).cells.toList) := by
    unfold execOp
    simp only [ho, hp]
    rw [Sem.run_bind, run_store_at hi (by rw [hs, ← e1, ← hlen]; simp) h1 (by rw [hs, List.length_append]; omega) (ones_R hones hcells)]; rfl
  obtain ⟨g1, g2, g3, g4⟩ := setCells_at (a.eval x).cells.toList (C ++ tl) o' w (by rw [hlen, List.length_append]; omega) h1
  rw [setAt_append _ _ _ _ (by rw [hlen]; omega)] at g1
  have hfr : Fr m lim w lim (w.setCells b o' (a.eval x).cells.toList) := by
    refine ⟨g4, fun k hk hm => ⟨g2 k (fun e => by subst e; exact hm (H.mb k hmem)), rfl⟩, fun _ _ => Nat.le_refl _, fun k j hk hj => ?_, fun k cur e p hk => ?_⟩
    · exact World.cell?_of_block (g2 k (fun e => by subst e; rw [H.free k hmem] at hj; omega))
    · by_cases hkb : k = b
      · subst hkb
        rw [h1] at hk; cases hk
        exact ⟨_, g1, by simp [setAt_length]⟩
      · exact ⟨cur, (g2 k hkb).trans hk, rfl⟩
  have hext : AV.Ext lim bs w lim bs (w.setCells b o' (a.eval x).cells.toList) := hfr.ext (fun _ _ h => h)
  -- rows of slots lie elsewhere
  obtain ⟨w2, hw2⟩ : ∃ w2, w2 = w.setCells b o' (a.eval x).cells.toList := ⟨_, rfl⟩
  rw [← hw2] at hrun g1 g2 g3 g4 hfr hext
  have hkeep : ∀ k : Nat, AV.R lim bs w2 (get σ.tm k) (a.tmps.getD k undef) := fun k =>
    AV.R.keep hext (H.slotT k) (fun g hg1 hg2 => ⟨g2 g (fun e => by subst e; exact (H.own (.t k) _ ⟨hg1, hg2⟩).2 hmem), rfl⟩) (H.slot k)
  refine wp_skp hrun (hK lim bs w2 _ ⟨?_, hfr, fun _ _ h => h, put_size _ _ _, put_defers _ _ _⟩)
  show Hold lim bs w2 (setMany σ.bx [i] [setAt c o' (cells X)] ++ []) (Sl (putD (give σ.tm (tmpOf x)) o.dst .bad) (a.put o.dst undef)) m
  rw [List.append_nil, setMany_one, Sl_putD hd]
  obtain ⟨H2, hg3, hg4⟩ := sub_give H (tmpOf x)
  have hstop : ∀ k, AV.R lim bs w2 (upD (Sl (give σ.tm (tmpOf x)) a) o.dst (.bad, undef) k).1 (upD (Sl (give σ.tm (tmpOf x)) a) o.dst (.bad, undef) k).2 ∧ (upD (Sl (give σ.tm (tmpOf x)) a) o.dst (.bad, undef) k).1.top = true := by
    intro k
    have h1 : AV.R lim bs w2 (get (give σ.tm (tmpOf x)) k) (a.tmps.getD k undef) ∧ (get (give σ.tm (tmpOf x)) k).top = true := by
      refine ⟨?_, H2.slotT k⟩
      rcases (get_give (tmpOf x) σ.tm k).1 with e | e
      · rw [e]; exact hkeep k
      · rw [e]; exact (hkeep k).dem
    cases hdst : o.dst with
    | none => exact h1
    | some dk =>
      show AV.R lim bs w2 (up _ dk (.bad, undef) k).1 (up _ dk (.bad, undef) k).2 ∧ (up _ dk (.bad, undef) k).1.top = true
      unfold up
      split
      · exact ⟨R_bad _, rfl⟩
      · exact h1
  have hslot : ∀ k g, Own w2 bs (σ.bx.set i (setAt c o' (cells X))) (upD (Sl (give σ.tm (tmpOf x)) a) o.dst (.bad, undef)) (.t k) g → Own w bs σ.bx (Sl σ.tm a) (.t k) g ∧ k ∉ tmpOf x := by
    intro k g hp
    have h1 : Own w bs σ.bx (Sl (give σ.tm (tmpOf x)) a) (.t k) g := by
      cases hdst : o.dst with
      | none => rw [hdst] at hp; exact hp
      | some dk =>
        rw [hdst] at hp
        obtain ⟨p1, p2⟩ := hp
        have p1' : (up (Sl (give σ.tm (tmpOf x)) a) dk (.bad, undef) k).1.isRow = true := p1
        have p2' : (up (Sl (give σ.tm (tmpOf x)) a) dk (.bad, undef) k).2.ownBlock = some g := p2
        unfold up at p1' p2'
        split at p1'
        · cases p1'
        · rename_i e; rw [if_neg e] at p2'; exact ⟨p1', p2'⟩
    exact ⟨hg3 _ _ h1, fun hk => hg4 k g hk h1⟩
  obtain ⟨NW, hNW⟩ : ∃ l, l = cells X := ⟨_, rfl⟩
  rw [← hNW] at hslot ⊢
  have hNR : AV.Rs lim bs w NW (a.eval x).cells.toList := by rw [hNW]; exact hcells
  have hone : d.agg = false → cells X = [X] ∧ (a.eval x).cells.toList = [a.eval x] := by
    intro ha
    rw [ha, if_neg (by simp)] at e3
    have hc1 : cells X = [X] := by
      cases X <;> first | rfl | cases e3
    refine ⟨hc1, ?_⟩
    have := one_R e3 hx.r
    cases hh : a.eval x <;> first | rfl | (rw [hh] at this; cases this)
  have hNT : NW.all AV.top = true := by
    rw [hNW]
    cases ha : d.agg with
    | true =>
      rw [ha, if_pos rfl, Bool.and_eq_true] at e3
      exact tops_of_flats e3.2
    | false => rw [(hone ha).1, List.all_cons, hx.t]; rfl
  have hNrow : ∀ (j : Nat) (y : AV) (v : Value) (g : Nat), NW[j]? = some y → (a.eval x).cells.toList[j]? = some v → y.isRow = true → v.ownBlock = some g → j = 0 ∧ ∃ k, x = .tmp k ∧ Own w bs σ.bx (Sl σ.tm a) (.t k) g := by
    intro j y v g hy hv hr hg
    rw [hNW] at hy
    cases ha : d.agg with
    | true =>
      rw [ha, if_pos rfl, Bool.and_eq_true] at e3
      rw [flat_row (flats_get e3.2 hy)] at hr; cases hr
    | false =>
      obtain ⟨u1, u2⟩ := hone ha
      rw [u1] at hy
      rw [u2] at hv
      have hj : j = 0 := by
        cases j with
        | zero => rfl
        | succ j => simp at hy
      subst hj
      simp at hy hv
      subst hy hv
      obtain ⟨k, hk, hXk⟩ := hsrc hr
      exact ⟨rfl, k, hk, by show (get σ.tm k).isRow = true; rw [← hXk]; exact hr, by subst hk; exact hg⟩
  have hNlen : NW.length = (a.eval x).cells.toList.length := (AV.Rs_len hNR).symm
  have hsrcx : ∀ g, ¬ ∃ k, k ∈ tmpOf x ∧ Own w2 bs (σ.bx.set i (setAt c o' NW)) (upD (Sl (give σ.tm (tmpOf x)) a) o.dst (.bad, undef)) (.t k) g := fun g ⟨k, hk, ho⟩ => (hslot k g ho).2 hk
  have hcellw : ∀ b2 j, b2 ≠ b → w2.cell? ⟨b2, j, none⟩ = w.cell? ⟨b2, j, none⟩ := fun b2 j hne => World.cell?_of_block (g2 b2 hne)
  -- where a row of a cell comes from
  have hcell : ∀ i2 j g, Own w2 bs (σ.bx.set i (setAt c o' NW)) (upD (Sl (give σ.tm (tmpOf x)) a) o.dst (.bad, undef)) (.b i2 j) g →
      (i2 = i ∧ j = o' ∧ 0 < NW.length ∧ ∃ k, x = .tmp k ∧ Own w bs σ.bx (Sl σ.tm a) (.t k) g) ∨ (¬ (i2 = i ∧ o' ≤ j ∧ j < o' + NW.length) ∧ Own w bs σ.bx (Sl σ.tm a) (.b i2 j) g) := by
    rintro i2 j g ⟨b2, x2, y2, v2, q1, q2, q3, q4, q5, q6⟩
    rw [List.getElem?_set] at q2
    split at q2
    · rename_i e; subst e
      split at q2
      · cases q2
        rw [hb] at q1; cases q1
        have hjc : j < C.length := by
          have := (List.getElem?_eq_some_iff.1 q3).1
          rw [setAt_length] at this; omega
        have q5' : (setAt C o' (a.eval x).cells.toList)[j]? = some v2 := by
          rw [heap_cell4 g1, List.getElem?_append_left (by rw [setAt_length]; exact hjc)] at q5
          exact q5
        rw [getElem?_setAt] at q3 q5'
        by_cases hr : o' ≤ j ∧ j < o' + NW.length
        · have hjl : j < c.length := by omega
          rw [if_pos ⟨hr.1, hr.2, hjl⟩] at q3
          rw [if_pos ⟨hr.1, by omega, by omega⟩] at q5'
          obtain ⟨hj0, k, hk, hown⟩ := hNrow (j - o') y2 v2 g q3 q5' q4 q6
          exact .inl ⟨rfl, by omega, by omega, k, hk, hown⟩
        · rw [if_neg (by omega)] at q3
          rw [if_neg (by omega)] at q5'
          exact .inr ⟨fun hh => hr ⟨hh.2.1, hh.2.2⟩, b, c, y2, v2, hb, hc, q3, q4, heap_cellP h1 q5', q6⟩
      · cases q2
    · rename_i e
      have hne : b2 ≠ b := fun hh => e (by subst hh; exact nodup_inj H.nod hb q1)
      exact .inr ⟨fun hh => e hh.1.symm, b2, x2, y2, v2, q1, q2, q3, q4, by rw [← hcellw b2 j hne]; exact q5, q6⟩
  have hcx : ∀ (j : Nat) (y : AV) (v : Value) (g : Nat), c[j]? = some y → C[j]? = some v → y.isRow = true → v.ownBlock = some g → w2.heap[g]? = w.heap[g]? ∧ lim g = lim g := by
    intro j y v g hy hv hr hg
    have hown : Own w bs σ.bx (Sl σ.tm a) (.b i j) g := ⟨b, c, y, v, hb, hc, hy, hr, heap_cellP h1 hv, hg⟩
    exact ⟨g2 g (fun e => by subst e; exact (H.own _ _ hown).2 hmem), rfl⟩
  have hNx : AV.Rs lim bs w2 NW (a.eval x).cells.toList := by
    refine Rs_keep hext hNT (fun j y v g hy hv hr hg => ?_) hNR
    obtain ⟨-, k, -, hown⟩ := hNrow j y v g hy hv hr hg
    exact ⟨g2 g (fun e => by subst e; exact (H.own _ _ hown).2 hmem), rfl⟩
  refine H.setBox hb hc g1 ⟨_, h1, by simp [setAt_length]⟩ g2 g3 (Rs_setAt (Rs_keep hext h3 hcx h2) hNx) (tops_setAt h3 hNT) hstop (fun p => match p with | .b i2 j => if i2 = i ∧ o' ≤ j ∧ j < o' + NW.length then (tmpLoc x (.b i2 j)) else .b i2 j | p => p) ?_ ?_
  · intro p g hp
    cases p with
    | t k => exact (hslot k g hp).1
    | b i2 j =>
      rcases hcell i2 j g hp with ⟨r1, r2, r3, k, hk, hown⟩ | ⟨r1, r2⟩
      · have hne := r3
        subst r1 r2
        simp only [true_and, Nat.le_refl]
        rw [if_pos (by omega), hk]
        exact hown
      · simp only []
        rw [if_neg r1]; exact r2
  · intro p q g hp hq he
    cases p with
    | t k =>
      cases q with
      | t k2 => exact he
      | b i2 j =>
        simp only [] at he
        split at he
        · cases x with
          | tmp k' => cases he; exact absurd (by simp [tmpOf]) (hslot k g hp).2
          | _ => cases he
        · cases he
    | b i2 j =>
      cases q with
      | t k2 =>
        simp only [] at he
        split at he
        · cases x with
          | tmp k' => cases he; exact absurd (by simp [tmpOf]) (hslot k2 g hq).2
          | _ => cases he
        · cases he
      | b i3 j3 =>
        rcases hcell i2 j g hp with ⟨r1, r2, -, k, hk, hown⟩ | ⟨r1, r2⟩
        · rcases hcell i3 j3 g hq with ⟨r3, r4, -⟩ | ⟨r3, r4⟩
          · rw [r1, r2, r3, r4]
          · exact absurd (H.dist _ _ g hown r4) (by simp)
        · rcases hcell i3 j3 g hq with ⟨r3, r4, -, k, hk, hown⟩ | ⟨r3, r4⟩
          · exact absurd (H.dist _ _ g r2 hown) (by simp)
          · exact H.dist _ _ g r2 r4
end Ab
end Go.Proofs.YtlmjabnkjmfcmaaGreat
/- A run on abstract values: new variables, literals of slices, append. -/
namespace Go.Proofs.YtlmjabnkjmfcmaaGreat
open Go Go.RowKit Go.PlainAid
set_option linter.unusedVariables false
set_option linter.unusedSimpArgs false
namespace Ab
variable {lim lim' : Nat → Nat} {bs bs' : List Nat} {w w' : World} {P : Program} {T : Tab} {a : Act} {o : Oper} {cs : List (List AV)} {out : Out} {m : Nat → Prop} {bx bx' : List (List AV)} {S S' : Slots} {K : Act → World → Prop} {Q : Exit → Act → World → Prop} {cal : Cal} {σ σ' : ASt}
theorem alloc_old (w : World) (x : Obj) {k : Nat} (h : k < w.heap.size) : (w.alloc x).heap[k]? = w.heap[k]? := ((Below.refl w.heap.size w).alloc (Nat.le_refl _) x).block k h
theorem alloc_new (w : World) (x : Obj) : (w.alloc x).heap[w.heap.size]? = some x := heap_alloc_new w x
theorem alloc_size (w : World) (x : Obj) : (w.alloc x).heap.size = w.heap.size + 1 := by simp
theorem alloc_bel (w : World) (x : Obj) : Below 0 w (w.alloc x) := (Below.refl 0 w).alloc (Nat.zero_le _) x
theorem bs_lt (H : Hold lim bs w bx S m) {b : Nat} (h : b ∈ bs) : b < w.heap.size := by
  obtain ⟨i, hi, rfl⟩ := List.getElem_of_mem h
  have hi2 : i < bx.length := by rw [← H.len]; exact hi
  obtain ⟨c, tl, t, h1, -⟩ := H.box i _ (bx[i]) (List.getElem?_eq_getElem hi) (List.getElem?_eq_getElem hi2)
  exact lt_of_heap h1
theorem fr_alloc (x : Obj) : Fr m lim w lim (w.alloc x) :=
  ⟨alloc_bel w x, fun k hk _ => ⟨alloc_old w x hk, rfl⟩, fun _ _ => Nat.le_refl _, fun k j hk _ => World.cell?_of_block (alloc_old w x hk), fun b cur e p h => ⟨cur, (alloc_old w x (lt_of_heap h)).trans h, rfl⟩⟩
theorem get?_append_one {α : Type} (l : List α) (x : α) (i : Nat) : (l ++ [x])[i]? = if i = l.length then some x else l[i]? := by
  rw [List.getElem?_append]
  split
  · rename_i h; rw [if_neg (by omega)]
  · rename_i h
    by_cases e : i = l.length
    · subst e; simp
    · rw [if_neg e, List.getElem?_eq_none (show [x].length ≤ i - l.length by simp; omega), List.getElem?_eq_none (by omega)]
/-- A new box. -/
theorem Hold.alloc (H : Hold lim bs w bx S m) (hm : ∀ b, w.heap.size ≤ b → m b) {c : List AV} {V : List Value} (tl : List Value) {t : TypeId} (hR : AV.Rs lim bs w c V) (hT : c.all AV.top = true) (hn : ∀ (j : Nat) (y : AV) (v : Value), c[j]? = some y → V[j]? = some v → y.isRow = true → v.ownBlock = none) :
    Hold lim (bs ++ [w.heap.size]) (w.alloc (.cells (V ++ tl).toArray t)) (bx ++ [c]) S m := by
  have hnb : w.heap.size ∉ bs := fun h => Nat.lt_irrefl _ (bs_lt H h)
  have hids : ∀ (i b : Nat), bs[i]? = some b → (bs ++ [w.heap.size])[i]? = some b := fun i b h => by
    rw [get?_append_one, if_neg (fun e => by subst e; simp at h)]; exact h
  have hfr : Fr m lim w lim (w.alloc (.cells (V ++ tl).toArray t)) := fr_alloc _
  have hext := hfr.ext hids
  have hrow : ∀ p g, Own w bs bx S p g → (w.alloc (.cells (V ++ tl).toArray t)).heap[g]? = w.heap[g]? ∧ lim g = lim g := fun p g hp => ⟨alloc_old w _ (Own.lt H hp), rfl⟩
  have ho : ∀ p g, Own (w.alloc (.cells (V ++ tl).toArray t)) (bs ++ [w.heap.size]) (bx ++ [c]) S p g → Own w bs bx S p g := by
    intro p g hp
    cases p with
    | t k => exact hp
    | b i j =>
      obtain ⟨b, x, y, v, q1, q2, q3, q4, q5, q6⟩ := hp
      rw [get?_append_one] at q1 q2
      rw [← H.len] at q2
      split at q1
      · rename_i e
        cases q1
        rw [if_pos e] at q2
        cases q2
        have hjv : j < V.length := by
          rw [AV.Rs_len hR]; exact (List.getElem?_eq_some_iff.1 q3).1
        have q5' : V[j]? = some v := by
          rw [heap_cell4 (alloc_new w _), List.getElem?_append_left hjv] at q5; exact q5
        rw [hn j y v q3 q5' q4] at q6; cases q6
      · rename_i e
        rw [if_neg e] at q2
        exact ⟨b, x, y, v, q1, q2, q3, q4, by rw [← World.cell?_of_block (w' := w.alloc (.cells (V ++ tl).toArray t)) (alloc_old w _ (bs_lt H (List.mem_of_getElem? q1)))]; exact q5, q6⟩
  refine ⟨by simp [H.len], ?_, fun b hb => ?_, fun b hb => ?_, fun i b x hi hx => ?_, fun k => ?_, H.slotT, fun b hb => H.top b (by rw [alloc_size] at hb; omega), fun p g hp => ?_, fun p q g hp hq => H.dist p q g (ho p g hp) (ho q g hq)⟩
  · rw [List.nodup_append]
    exact ⟨H.nod, by simp, fun x hx y hy e => by rw [List.mem_singleton.1 hy] at e; exact hnb (e ▸ hx)⟩
  · rcases List.mem_append.1 hb with hb | hb
    · exact H.free b hb
    · rw [List.mem_singleton.1 hb]; exact H.top _ (Nat.le_refl _)
  · rcases List.mem_append.1 hb with hb | hb
    · exact H.mb b hb
    · rw [List.mem_singleton.1 hb]; exact hm _ (Nat.le_refl _)
  · rw [get?_append_one] at hi hx
    rw [← H.len] at hx
    split at hi
    · rename_i e
      cases hi
      rw [if_pos e] at hx
      cases hx
      refine ⟨V, tl, t, alloc_new w _, Rs_keep hext hT (fun j y v g hy hv hr hg => ?_) hR, hT⟩
      rw [hn j y v hy hv hr] at hg; cases hg
    · rename_i e
      rw [if_neg e] at hx
      obtain ⟨C, tl2, t2, g1, g2, g3⟩ := H.box i b x hi hx
      refine ⟨C, tl2, t2, (alloc_old w _ (lt_of_heap g1)).trans g1, Rs_keep hext g3 (fun j y v g hy hv hr hg => ?_) g2, g3⟩
      exact hrow (.b i j) g ⟨b, x, y, v, hi, hx, hy, hr, heap_cellP g1 hv, hg⟩
  · exact AV.R.keep hext (H.slotT k) (fun g h1 h2 => hrow (.t k) g ⟨h1, h2⟩) (H.slot k)
  · refine ⟨(H.own p g (ho p g hp)).1, fun hb => ?_⟩
    rcases List.mem_append.1 hb with hb | hb
    · exact (H.own p g (ho p g hp)).2 hb
    · rw [List.mem_singleton.1 hb] at hp
      exact Nat.lt_irrefl _ (Own.lt H (ho p _ hp))
/-- A new variable. -/
theorem make_goes (H : Hold lim bs w σ.bx (Sl σ.tm a) m) (hm : ∀ b, w.heap.size ≤ b → m b) (hd : ∀ k, o.dst = some k → k < a.tmps.size) {c : List AV} {V : List Value} {t : TypeId} (hrun : (execOp a.eval o).run P w = .ok (.value (.pointer (some ⟨w.heap.size, 0, none⟩))) (w.alloc (.cells V.toArray t)))
    (hR : AV.Rs lim bs w c V) (hT : c.all AV.top = true) (hn : ∀ (j : Nat) (y : AV) (v : Value), c[j]? = some y → V[j]? = some v → y.isRow = true → v.ownBlock = none) {ok : Bool} (hK : Kont m lim bs w a (fin o.dst ⟨.ptr σ.bx.length 0, cs, [c], ok⟩ [] [] σ) K) : o.wp P a w K Q := by
  have H2 := H.alloc hm [] (t := t) hR hT hn
  rw [List.append_nil] at H2
  refine wp_val hrun (hK lim (bs ++ [w.heap.size]) _ _ ⟨?_, fr_alloc _, fun i b h => ?_, put_size _ _ _, put_defers _ _ _⟩)
  · show Hold lim _ _ (setMany σ.bx [] cs ++ [c]) (Sl (putD σ.tm o.dst (.ptr σ.bx.length 0)) (a.put o.dst _)) m
    rw [setMany_nil, Sl_putD hd]
    refine H2.putD ?_ rfl (fun k g _ hh => by cases hh)
    rw [AV.R]
    exact ⟨w.heap.size, by rw [get?_append_one, if_pos H.len.symm], rfl⟩
  · rw [get?_append_one, if_neg (fun e => by subst e; simp at h)]; exact h
theorem alloc_run (HT : TOK P T) {t : Nat} {d : TD} (ho : o.op = .alloc t) (ht : T t = some d) : ∃ V : List Value, (execOp a.eval o).run P w = .ok (.value (.pointer (some ⟨w.heap.size, 0, none⟩))) (w.alloc (.cells V.toArray t)) ∧ zrs d.zero V := by
  obtain ⟨i, z, hi, hs, hb, hz, hc, hzr⟩ := HT.info t d ht
  refine ⟨z.cells.toList, ?_, hzr⟩
  unfold execOp
  simp [ho, Instr.alloc, zeroValue, typeInfo, hi, hz, newVar, newRow]
theorem box_run {t : Nat} {x : Operand} (ho : o.op = .box t x) : (execOp a.eval o).run P w = .ok (.value (.pointer (some ⟨w.heap.size, 0, none⟩))) (w.alloc (.cells (a.eval x).cells.toList.toArray t)) := by
  unfold execOp
  simp [ho, Instr.box, newVar, newRow]
/-- A new row that the call owns: its block is made now, or grew. -/
theorem Hold.grow (H : Hold lim bs w bx S m) {g : Nat} (hg : g ∉ bs) (hmg : m g) (hgl : g < w'.heap.size) {n : Nat} (hsz : w.heap.size ≤ w'.heap.size) (hb : Below 0 w w') (hoth : ∀ k, k < w.heap.size → k ≠ g → w'.heap[k]? = w.heap[k]?) (hown : ∀ p, ¬ Own w bs bx S p g)
    (hnew : w'.heap.size ≤ w.heap.size ∨ g = w.heap.size ∧ w'.heap.size = w.heap.size + 1) (hle : lim g ≤ n) (hcell : ∀ j, g < w.heap.size → j < lim g → w'.cell? ⟨g, j, none⟩ = w.cell? ⟨g, j, none⟩) (hsh : ∀ (cur : Array Value) (e : TypeId) (p : Nat × Nat), w.heap[g]? = some (Obj.cells cur e p) → ∃ cur' : Array Value, w'.heap[g]? = some (.cells cur' e p) ∧ cur'.size = cur.size) :
    Hold (fun b => if b = g then n else lim b) bs w' bx S m ∧ Fr m lim w (fun b => if b = g then n else lim b) w' ∧ ∀ p k, Own w' bs bx S p k → Own w bs bx S p k := by
  have hfr : Fr m lim w (fun b => if b = g then n else lim b) w' := by
    refine ⟨hb, fun k hk hm => ?_, fun k hk => ?_, fun k j hk hj => ?_, fun k cur e p hk => ?_⟩
    · have hne : k ≠ g := fun e => hm (e ▸ hmg)
      exact ⟨hoth k hk hne, by simp only [if_neg hne]⟩
    · show lim k ≤ if k = g then n else lim k
      split
      · rename_i e; subst e; exact hle
      · exact Nat.le_refl _
    · by_cases e : k = g
      · subst e; exact hcell j hk hj
      · exact World.cell?_of_block (hoth k hk e)
    · by_cases he : k = g
      · subst he; exact hsh cur e p hk
      · exact ⟨cur, (hoth k (lt_of_heap hk) he).trans hk, rfl⟩
  have h := H.world (lim' := fun b => if b = g then n else lim b) (hfr.ext (fun _ _ h => h)) (fun b hbm => ?_) (fun p k hp => ?_) (fun b hbb => ?_)
  · exact ⟨h.1, hfr, h.2⟩
  · have hne : b ≠ g := fun e => hg (e ▸ hbm)
    exact ⟨hoth b (bs_lt H hbm) hne, by simp only [if_neg hne]; exact H.free b hbm⟩
  · have hne : k ≠ g := fun e => hown p (e ▸ hp)
    exact ⟨hoth k (Own.lt H hp) hne, by simp only [if_neg hne]⟩
  · show (if b = g then n else lim b) = 0
    rw [if_neg (by omega)]
    exact H.top b (by omega)
theorem Rs_append : ∀ {x y : List AV} {c d : List Value}, AV.Rs lim bs w x c → AV.Rs lim bs w y d → AV.Rs lim bs w (x ++ y) (c ++ d)
  | [], y, c, d, h, h2 => by rw [AV.Rs] at h; subst h; exact h2
  | z :: x, y, c, d, h, h2 => by
    rw [AV.Rs] at h
    obtain ⟨v, r, rfl, h3, h4⟩ := h
    rw [List.cons_append, List.cons_append, AV.Rs]
    exact ⟨v, _, rfl, h3, Rs_append h4 h2⟩
theorem fill_parts {z len : Nat} {place : Nat → Option (Nat × Nat)} (hp : ∀ i, place i = some (i * z, z)) :
    ∀ {ps : List (Nat × AV)} {vs : List (Nat × Value)} {k : Nat} {V : Array Value} {l : List AV}, Ps lim bs w ps vs → parts k ps = some l → ones l = true → (ps.all fun p => decide ((cells p.2).length = z)) = true → k + ps.length = len → V.size = len * z →
      ∃ V', Instr.fill place V vs = some V' ∧ V'.size = V.size ∧ V'.toList.take (k * z) = V.toList.take (k * z) ∧ AV.Rs lim bs w l (V'.toList.drop (k * z)) := by
  intro ps vs k V l hps
  induction hps generalizing k V l with
  | nil =>
    intro h _ _ hk hV
    rw [parts] at h; cases h
    refine ⟨V, rfl, rfl, rfl, ?_⟩
    rw [List.drop_eq_nil_of_le (by simp [hV]; simp at hk; rw [hk]; exact Nat.le_refl _), AV.Rs]
  | @cons i x u ps vs hx hr ih =>
    intro h h1 hz hk hV
    rw [parts] at h
    split at h
    · rename_i hik
      subst hik
      cases hl2 : parts (i + 1) ps with
      | none => rw [hl2] at h; cases h
      | some l2 =>
        rw [hl2] at h
        cases h
        have hones : ∀ (a b : List AV), ones (a ++ b) = true → ones a = true ∧ ones b = true := by
          intro a
          induction a with
          | nil => intro b hb; exact ⟨rfl, hb⟩
          | cons y a iha =>
            intro b hb
            rw [List.cons_append, ones, Bool.and_eq_true] at hb
            have := iha b hb.2
            exact ⟨by rw [ones, hb.1, this.1]; rfl, this.2⟩
        obtain ⟨o1, o2⟩ := hones _ _ h1
        rw [List.all_cons, Bool.and_eq_true, decide_eq_true_eq] at hz
        have hc := cells_R o1 hx.r.dem
        have hcl := AV.Rs_len hc
        have hcs : u.cells.size = z := by
          have h5 : u.cells.toList.length = z := by rw [hcl]; exact hz.1
          simpa using h5
        rw [List.length_cons] at hk
        have hroom : i * z + z ≤ V.size := by
          rw [hV, ← Nat.succ_mul]; exact Nat.mul_le_mul_right z (by omega)
        have hfold := zip_foldl u.cells (i * z) V (by omega)
        obtain ⟨V', e1, e2, e3, e4⟩ := ih (k := i + 1) (V := u.cells.zipIdx.foldl (fun (cs : Array Value) (c, j) => cs.setIfInBounds (i * z + j) c) V) hl2 o2 hz.2 (by omega) (by
          have := congrArg List.length hfold
          rw [setAt_len] at this
          simp only [Array.length_toList] at this
          rw [this, hV])
        have hsz2 : (u.cells.zipIdx.foldl (fun (cs : Array Value) (c, j) => cs.setIfInBounds (i * z + j) c) V).size = V.size := by
          have := congrArg List.length hfold
          rw [setAt_len] at this
          simpa using this
        rw [hfold] at e3
        refine ⟨V', ?_, by rw [e2, hsz2], ?_, ?_⟩
        · rw [Instr.fill, hp i]
          simp only []
          rw [if_neg (by simp [hcs]; omega)]
          exact e1
        · apply List.ext_getElem?
          intro j
          rw [List.getElem?_take, List.getElem?_take]
          split
          · rename_i hj
            have h6 := congrArg (fun l : List Value => l[j]?) e3
            simp only [List.getElem?_take] at h6
            have : j < (i + 1) * z := by rw [Nat.succ_mul]; omega
            rw [if_pos this, if_pos this, getElem?_setAt, if_neg (by omega)] at h6
            exact h6
          · rfl
        · have hsplit : V'.toList.drop (i * z) = u.cells.toList ++ V'.toList.drop ((i + 1) * z) := by
            apply List.ext_getElem?
            intro j
            rw [List.getElem?_drop, List.getElem?_append]
            split
            · rename_i hj
              have h6 := congrArg (fun l : List Value => l[i * z + j]?) e3
              simp only [List.getElem?_take] at h6
              have hjz : j < z := by simpa [hcs] using hj
              have : i * z + j < (i + 1) * z := by rw [Nat.succ_mul]; omega
              rw [if_pos this, if_pos this, getElem?_setAt, if_pos ⟨by omega, by simp [hcs]; omega, by simp; omega⟩] at h6
              rw [h6]
              congr 1; omega
            · rename_i hj
              rw [List.getElem?_drop]
              congr 1
              have : u.cells.toList.length = z := by simp [hcs]
              rw [Nat.succ_mul]; omega
          rw [hsplit]
          exact Rs_append hc e4
    · cases h
/-- What is new in a row of the call's own. -/
theorem row_R {g n c e z : Nat} {l : List AV} {V : Array Value} (hl : l.length = n * z) (hf : AV.flats l = true) (hb : w.heap[g]? = some (.cells V e (0, 0))) (hn : n ≤ c) (hc : c ≤ maxLen) (hs : V.size = c * z) (hlim : lim g = l.length) (hR : ∃ vs : List Value, AV.Rs lim bs w l vs ∧ V.toList.take (n * z) = vs) :
    AV.R lim bs w (.row e z n l) (.slice (some ⟨g, 0, none⟩) n c) := by
  obtain ⟨vs, h1, h2⟩ := hR
  rw [AV.R]
  refine ⟨hl, hf, .inr ⟨g, c, V, rfl, hb, hn, hc, hs, hlim, Rm_of_vals h1 (fun j v hj => ?_)⟩⟩
  have hb2 : w.heap[g]? = some (.cells V.toList.toArray e (0, 0)) := by simpa using hb
  rw [heap_cell4 hb2, Nat.zero_add]
  have h3 : (V.toList.take (n * z))[j]? = some v := by rw [h2]; exact hj
  rw [List.getElem?_take] at h3
  split at h3
  · exact h3
  · cases h3
theorem Ps_len {ps : List (Nat × AV)} {vs : List (Nat × Value)} (h : Ps lim bs w ps vs) : ps.length = vs.length := by
  induction h with
  | nil => rfl
  | cons _ _ ih => rw [List.length_cons, List.length_cons, ih]
theorem bslice_goes (HT : TOK P T) (H : Hold lim bs w σ.bx (Sl σ.tm a) m) (hm : ∀ b, w.heap.size ≤ b → m b) (hd : ∀ k, o.dst = some k → k < a.tmps.size) {t e len : Nat} {d : TD} {ps : Array (Nat × Operand)} {X : List (Nat × AV)} (ho : o.op = .buildSlice t len ps) (ht : elT T t = some (e, d)) (hx : Ps lim bs w X (ps.toList.map fun p => (p.1, a.eval p.2)))
    {mt : Bool} (h : cBuildSlice mt σ.bx.length e d len X cs = some out) (hok : out.ok = true) (hK : Kont m lim bs w a (fin o.dst out [] [] σ) K) : o.wp P a w K Q := by
  unfold cBuildSlice at h
  split at h
  · cases h
  · rename_i l hl
    cases h
    simp only [Bool.and_eq_true, decide_eq_true_eq] at hok
    obtain ⟨⟨⟨⟨⟨⟨k1, k2⟩, k3⟩, k4⟩, k5⟩, k6⟩, k8⟩ := hok
    obtain ⟨hu, he⟩ := elT_und HT ht
    obtain ⟨i, z, hi, hs, hby, hz, hzc, hzr⟩ := HT.info e d he
    obtain ⟨V', e1, e2, e3, e4⟩ := fill_parts (z := d.size) (len := len) (place := fun i => some (i * d.size, d.size)) (fun i => rfl) (k := 0) (V := (Array.range (len * d.size)).map (z.cells[· % z.cells.size]!)) hx hl k5 (by
      rw [List.all_eq_true] at k8 ⊢
      intro p hp; simpa using k8 p hp) (by omega) (by simp)
    simp only [Nat.zero_mul, List.drop_zero] at e4
    have hVl := AV.Rs_len e4
    have hVs : V'.size = len * d.size := by rw [e2]; simp
    have hrunE : len = 0 → (execOp a.eval o).run P w = .ok (.value (.slice (some ⟨w.heap.size, 0, none⟩) len len)) (w.alloc (.cells V' e)) := by
      intro hlen0
      subst hlen0
      have hX0 : X = [] := List.eq_nil_of_length_eq_zero k2
      have hps : ps.toList = [] := by
        have := Ps_len hx
        rw [hX0] at this
        exact List.eq_nil_of_length_eq_zero (by simpa using this.symm)
      have hps2 : ps = #[] := by simpa using hps
      have hV0 : V' = #[] := Array.eq_empty_of_size_eq_zero (by rw [hVs]; simp)
      unfold execOp
      simp [ho, hps2, Instr.buildSlice, run_underlying hu, run_sizeOf hi, Instr.fill, newRow, hV0]
      have e0 : Array.map (fun _ => (default : Value)) (Array.range 0) = #[] := Array.eq_empty_of_size_eq_zero (by simp)
      rw [e0]
    have hrunA : (execOp a.eval o).run P w = .ok (.value (.slice (some ⟨w.heap.size, 0, none⟩) len len)) (w.alloc (.cells V' e)) := by
      by_cases hlen0 : len = 0
      · exact hrunE hlen0
      · have hpos : 0 < len * d.size := Nat.mul_pos (by omega) k1
        unfold execOp
        simp only [ho]
        rw [Sem.run_bind, run_buildSlice w t e len _ V' i z hu hi hz (by rw [hs]; omega) (by rw [hs]; omega) (by rw [hs]; simpa using e1)]; rfl
    have hcap : len ≤ maxLen := by
      unfold maxLen
      have : len ≤ len * d.size := Nat.le_mul_of_pos_right _ k1
      omega
    cases mt with
    | true =>
      have H2 := H.alloc hm [] (t := e) e4 (tops_of_flats k6) (fun j y v hy hv hr => by
        have := flat_row (flats_get k6 hy)
        rw [this] at hr; cases hr)
      rw [List.append_nil, show V'.toList.toArray = V' by simp] at H2
      refine wp_val hrunA (hK lim (bs ++ [w.heap.size]) _ _ ⟨?_, fr_alloc _, fun i b h => ?_, put_size _ _ _, put_defers _ _ _⟩)
      · show Hold lim _ _ (setMany σ.bx [] cs ++ [l]) (Sl (putD σ.tm o.dst (.bsl σ.bx.length e d.size len)) (a.put o.dst _)) m
        rw [setMany_nil, Sl_putD hd]
        refine H2.putD ?_ rfl (fun k g _ hh => by cases hh)
        rw [AV.R]
        exact ⟨w.heap.size, len, V', by rw [get?_append_one, if_pos H.len.symm], alloc_new w _, hVs, Nat.le_refl _, hcap, rfl⟩
      · rw [get?_append_one, if_neg (fun e => by subst e; simp at h)]; exact h
    | false =>
      obtain ⟨H2, hfr, hown⟩ := H.grow (w' := w.alloc (.cells V' e)) (g := w.heap.size) (n := l.length) (fun hb => Nat.lt_irrefl _ (bs_lt H hb)) (hm _ (Nat.le_refl _)) (by rw [alloc_size]; omega) (by rw [alloc_size]; omega) (alloc_bel w _) (fun k hk _ => alloc_old w _ hk) (fun p hp => Nat.lt_irrefl _ (Own.lt H hp)) (.inr ⟨rfl, alloc_size w _⟩) (by rw [H.top _ (Nat.le_refl _)]; omega) (fun j hj => absurd hj (Nat.lt_irrefl _)) (fun cur e p hh => absurd (lt_of_heap hh) (Nat.lt_irrefl _))
      refine wp_val hrunA (hK _ bs _ _ ⟨?_, hfr, fun _ _ h => h, put_size _ _ _, put_defers _ _ _⟩)
      show Hold _ bs _ (setMany σ.bx [] cs ++ []) (Sl (putD σ.tm o.dst (.row e d.size len l)) (a.put o.dst _)) m
      rw [List.append_nil, setMany_nil, Sl_putD hd]
      refine H2.putD (row_R k3 k6 (alloc_new w _) (Nat.le_refl _) ?_ hVs (by simp) ⟨V'.toList, AV.Rs.ext (hfr.ext (fun _ _ h => h)) k6 e4, ?_⟩) ?_ (fun k g _ _ hg => ?_)
      · unfold maxLen
        have : len ≤ len * d.size := Nat.le_mul_of_pos_right _ k1
        omega
      · rw [← hVs]; exact List.take_of_length_le (by simp)
      · rw [AV.top]; rfl
      · have hg' : w.heap.size = g := by simpa [Value.ownBlock] using hg
        subst hg'
        exact ⟨hm _ (Nat.le_refl _), fun hb => Nat.lt_irrefl _ (bs_lt H hb), fun p hp => absurd (Own.lt H (hown p _ hp)) (Nat.lt_irrefl _)⟩
/-- What append gives, onto a slice of one's own: in its row, or in a new one. -/
theorem run_app {t ty e z by_ n m' c : Nat} {i : TypeInfo} {zv : Value} (ht : P.underlying t = some (.slice e)) (hi : P.info? e = some i) (hz : i.zero = some zv) (hs : i.size = z) (hby : i.bytes = by_) (hzs : zv.cells.size = z) (hpos : 0 < z) (hb1000 : by_ ≤ 1000)
    {u : Value} {xs news : List Value} (hxs : xs.length = n * z)
    (hu : (u = .slice none 0 0 ∧ n = 0) ∨ ∃ g cap cur, u = .slice (some ⟨g, 0, none⟩) n cap ∧ w.heap[g]? = some (.cells cur e (0, 0)) ∧ n ≤ cap ∧ cap ≤ maxLen ∧ cur.size = cap * z ∧ cur.toList.take (n * z) = xs)
    {b o' : Nat} (hl : news.length = m' * z) (hnews : ∀ (j : Nat) (v : Value), news[j]? = some v → w.cell? ⟨b, o' + j, none⟩ = some v) (h1 : ∀ v ∈ news, v.oneCell' = true) (hm0 : 0 < m') (hlen : n + m' ≤ 100000000) :
    ∃ g cap cur' w', (Builtin.append_ #[t, t] ty #[u, .slice (some ⟨b, o', none⟩) m' c]).run P w = .ok (.slice (some ⟨g, 0, none⟩) (n + m') cap) w' ∧ w'.heap[g]? = some (.cells cur' e (0, 0)) ∧ n + m' ≤ cap ∧ cap ≤ maxLen ∧ cur'.size = cap * z ∧ cur'.toList.take ((n + m') * z) = xs ++ news ∧ Below 0 w w' ∧
      ((u.ownBlock = some g ∧ w'.heap.size = w.heap.size ∧ (∀ k, k ≠ g → w'.heap[k]? = w.heap[k]?) ∧ ∃ cur0 : Array Value, w.heap[g]? = some (.cells cur0 e (0, 0)) ∧ cur0.size = cur'.size) ∨ (g = w.heap.size ∧ w'.heap.size = w.heap.size + 1 ∧ ∀ k, k < w.heap.size → w'.heap[k]? = w.heap[k]?)) := by
  subst hs hby
  have hml : n + m' ≤ maxLen := by unfold maxLen; omega
  have hbytes : (n + m') * i.bytes ≤ 140737488355328 := Nat.le_trans (Nat.mul_le_mul hlen hb1000) (by decide)
  have hnw : ∀ (j : Nat) (v : Value), news[j]? = some v → w.cell? ((⟨b, o', none⟩ : Addr).add j) = some v := fun j v hj => by rw [add_mid]; exact hnews j v hj
  have hlx : (xs ++ news).length = (n + m') * i.size := by rw [List.length_append, hxs, hl, Nat.add_mul]
  have grown : ∀ old, old < n + m' → ∃ cur' : Array Value, cur' = (xs.toArray ++ news.toArray ++ Builtin.zeroCells zv.cells (grownCap w (n + m') old e - (n + m'))) ∧ cur'.size = grownCap w (n + m') old e * i.size ∧ cur'.toList.take ((n + m') * i.size) = xs ++ news := by
    intro old ho
    refine ⟨_, rfl, ?_, ?_⟩
    · have := grownCap_ge w (n + m') old e
      simp only [Array.size_append, List.size_toArray, size_zeroCells, hzs, hxs, hl, ← Nat.add_mul]
      congr 1
      omega
    · rw [Array.toList_append, Array.toList_append, ← hlx]
      exact List.take_left
  rcases hu with ⟨rfl, rfl⟩ | ⟨g, cap, cur, rfl, hg, hnc, hcm, hcs, htake⟩
  · have hx : xs = [] := List.eq_nil_of_length_eq_zero (by simpa using hxs)
    subst hx
    obtain ⟨cur', e1, e2, e3⟩ := grown 0 (by omega)
    simp only [Nat.zero_add] at e1 e2 e3 hbytes hml
    have hr := run_append_nil (P := P) w t ty e i zv ht hi hz ⟨b, o', none⟩ m' c news hl hnw (by omega) (by omega) (by omega)
    refine ⟨w.heap.size, _, cur', w.drew.alloc (.cells cur' e), ?_, ?_, ?_, ?_, e2, by rw [Nat.zero_add]; exact e3, ?_, .inr ⟨rfl, ?_, fun k hk => ?_⟩⟩
    · rw [hr, e1]; simp
    · exact heap_alloc_new w.drew _
    · rw [Nat.zero_add]; exact grownCap_ge w _ 0 e
    · exact grownCap_le_maxLen w _ 0 e hml
    · exact ((Below.refl 0 w).drew).alloc (Nat.zero_le _) _
    · simp
    · exact heap_alloc_old w.drew _ hk
  · by_cases hroom : n + m' ≤ cap
    · have hfit : n * i.size + news.length ≤ cur.size := by rw [hl, hcs, ← Nat.add_mul]; exact Nat.mul_le_mul_right _ hroom
      have hr := run_append_room (P := P) w t ty e i ht hi g n cap cur hg ⟨b, o', none⟩ m' c news hl hnw h1 hroom hfit
      refine ⟨g, cap, _, _, hr, setRow_heap w g cur _ e _ hg, hroom, hcm, ?_, ?_, below_setRow (Below.refl 0 w) (Nat.zero_le _) _, .inl ⟨rfl, by simp, fun k hk => setRow_other w g k _ hk, cur, hg, ?_⟩⟩
      · simp only [List.size_toArray, List.length_append, List.length_take, List.length_drop, Array.length_toList]
        omega
      · rw [htake, ← hlx]
        exact List.take_left
      · simp only [List.size_toArray, List.length_append, List.length_take, List.length_drop, Array.length_toList]
        omega
    · obtain ⟨cur', e1, e2, e3⟩ := grown cap (by omega)
      have holds : ∀ (j : Nat) (v : Value), xs[j]? = some v → w.cell? ((⟨g, 0, none⟩ : Addr).add j) = some v := by
        intro j v hj
        rw [add_mid, Nat.zero_add]
        have hb2 : w.heap[g]? = some (.cells cur.toList.toArray e (0, 0)) := by simpa using hg
        rw [heap_cell4 hb2]
        have h3 : (cur.toList.take (n * i.size))[j]? = some v := by rw [htake]; exact hj
        rw [List.getElem?_take] at h3
        split at h3
        · exact h3
        · cases h3
      have hr := run_append_grow (P := P) w t ty e i zv ht hi hz ⟨g, 0, none⟩ n cap xs hxs holds ⟨b, o', none⟩ m' c news hl hnw (by omega) (by unfold maxLen at hml; omega) (growslice_fits (by omega) hbytes)
      refine ⟨w.heap.size, _, cur', w.drew.alloc (.cells cur' e), ?_, heap_alloc_new w.drew _, grownCap_ge w _ cap e, grownCap_le_maxLen w _ cap e hml, e2, e3, ((Below.refl 0 w).drew).alloc (Nat.zero_le _) _, .inr ⟨rfl, by simp, fun k hk => heap_alloc_old w.drew _ hk⟩⟩
      rw [hr, e1]
end Ab
end Go.Proofs.YtlmjabnkjmfcmaaGreat
/- A run on abstract values: append; any operation but a call. -/
namespace Go.Proofs.YtlmjabnkjmfcmaaGreat
open Go Go.RowKit Go.PlainAid
set_option linter.unusedVariables false
set_option linter.unusedSimpArgs false
namespace Ab
variable {lim lim' : Nat → Nat} {bs bs' : List Nat} {w w' : World} {P : Program} {T : Tab} {a : Act} {o : Oper} {cs : List (List AV)} {out : Out} {m : Nat → Prop} {bx bx' : List (List AV)} {S S' : Slots} {K : Act → World → Prop} {Q : Exit → Act → World → Prop} {cal : Cal} {σ σ' : ASt}
theorem run_app0 {t ty e : TypeId} {i : TypeInfo} (ht : P.underlying t = some (.slice e)) (hi : P.info? e = some i) (base ax : Option Addr) (n cap c : Nat) (hn : n ≤ cap) :
    (Builtin.append_ #[t, t] ty #[.slice base n cap, .slice ax 0 c]).run P w = .ok (.slice base n cap) w := by
  cases ax <;> cases base <;> simp [Builtin.append_, run_underlying ht, sizeOf, typeInfo, hi, Builtin.lenOf, Builtin.firstCells, hn, storeCells, loadCells, loadCellsFrom]
theorem flats_append : ∀ {x y : List AV}, AV.flats x = true → AV.flats y = true → AV.flats (x ++ y) = true
  | [], y, _, h => h
  | z :: x, y, h, h2 => by
    rw [AV.flats, Bool.and_eq_true] at h
    rw [List.cons_append, AV.flats, h.1, flats_append h.2 h2]; rfl
theorem app_goes (HT : TOK P T) (H : Hold lim bs w σ.bx (Sl σ.tm a) m) (hm : ∀ b, w.heap.size ≤ b → m b) (hd : ∀ k, o.dst = some k → k < a.tmps.size) {c : Call} {t e : Nat} {d : TD} {s x : Operand} {Sv X : AV} (ho : o.op = .call c) (hcal : c.callee = .builtin .append) (hargs : c.args = #[s, x]) (htys : c.argTypes = #[t, t]) (ht : elT T t = some (e, d))
    (hs : Av lim bs w Sv (a.eval s)) (hsrc : Sv.isRow = true → ∃ k, s = .tmp k ∧ Sv = get σ.tm k) (hx : Av lim bs w X (a.eval x)) (h : cAppend e d Sv X true cs = some out) (hok : out.ok = true) (hK : Kont m lim bs w a (fin o.dst out [] (tmpOf s) σ) K) : o.wp P a w K Q := by
  unfold cAppend at h
  split at h
  · cases h
  · rename_i n l hmine
    split at h
    · cases h
    · rename_i m' k hel
      have := yesIf_inv h; subst this
      simp only [Bool.and_eq_true, decide_eq_true_eq, true_and] at hok
      obtain ⟨⟨⟨⟨⟨k1, k2⟩, k3⟩, k4⟩, k5⟩, k7⟩ := hok
      obtain ⟨hu, he⟩ := elT_und HT ht
      obtain ⟨i, zv, hi, hsz, hby, hz, hzc, hzr⟩ := HT.info e d he
      obtain ⟨H2, hg3, hg4⟩ := sub_give H (tmpOf s)
      -- what stands there
      have hsv : l.length = n * d.size ∧ AV.flats l = true ∧ AV.R lim bs w (.row e d.size n l) (a.eval s) ∧ ((a.eval s).ownBlock = none ∨ Sv.isRow = true) := by
        unfold mine at hmine
        split at hmine
        · cases hmine
          have h1 := hs.r
          rw [AV.R] at h1
          rw [h1]
          exact ⟨by simp, rfl, by rw [AV.R]; exact ⟨by simp, rfl, .inl ⟨rfl, rfl⟩⟩, .inl rfl⟩
        · rename_i e' z' n' l'
          split at hmine
          · rename_i heq
            obtain ⟨rfl, rfl⟩ := heq
            cases hmine
            have h1 := hs.r
            refine ⟨?_, h1.row_flats, h1, .inr rfl⟩
            rw [AV.R] at h1; exact h1.1
          · cases hmine
        · cases hmine
      obtain ⟨v1, v2, v3, v4⟩ := hsv
      obtain ⟨ad, cp, e1, e2, e3, e4⟩ := elems_R hx hel
      have hexec : ∀ v w2, (Builtin.append_ #[t, t] o.type #[a.eval s, a.eval x]).run P w = .ok v w2 → (execOp a.eval o).run P w = .ok (.value v) w2 := by
        intro v w2 hr
        unfold execOp
        simp [ho, resolve, hcal, hargs, htys, invoke, builtin, hr]
      have hown_s : ∀ g, (a.eval s).ownBlock = some g → m g ∧ g ∉ bs ∧ g < w.heap.size ∧ ∀ p, ¬ Own w bs σ.bx (Sl (give σ.tm (tmpOf s)) a) p g := by
        intro g hg
        rcases v4 with v4 | v4
        · rw [v4] at hg; cases hg
        · obtain ⟨ks, rfl, hSk⟩ := hsrc v4
          have ho1 : Own w bs σ.bx (Sl σ.tm a) (.t ks) g := ⟨by show (get σ.tm ks).isRow = true; rw [← hSk]; exact v4, hg⟩
          refine ⟨(H.own _ _ ho1).1, (H.own _ _ ho1).2, Own.lt H ho1, fun p hp => ?_⟩
          have := H.dist p (.t ks) g (hg3 p g hp) ho1
          subst this
          exact hg4 ks g (by simp [tmpOf]) hp
      rcases Nat.eq_zero_or_pos m' with hm0 | hm0
      · -- nothing is appended
        subst hm0
        have hk0 : k = [] := List.eq_nil_of_length_eq_zero (by rw [k2]; simp)
        subst hk0
        have hform : ∃ base cap, a.eval s = .slice base n cap ∧ n ≤ cap := by
          rw [AV.R] at v3
          rcases v3.2.2 with ⟨q1, q2⟩ | ⟨g, c', cur, q1, -, q2, -⟩
          · exact ⟨none, 0, by rw [q1, q2], by omega⟩
          · exact ⟨_, c', q1, q2⟩
        obtain ⟨base, cap, q1, q2⟩ := hform
        have hr := hexec _ w (by rw [q1, e1]; exact run_app0 hu hi base ad n cap cp q2)
        rw [← q1] at hr
        refine wp_val hr (hK lim bs w _ ⟨?_, Fr.refl, fun _ _ h => h, put_size _ _ _, put_defers _ _ _⟩)
        show Hold lim bs w (setMany σ.bx [] cs ++ []) (Sl (putD (give σ.tm (tmpOf s)) o.dst (appV Sv e d.size (n + 0) 0 (l ++ []))) (a.put o.dst (a.eval s))) m
        rw [List.append_nil, setMany_nil, Sl_putD hd, Nat.add_zero, List.append_nil]
        unfold appV
        split
        · exact H2.putD hs.r rfl (fun kk g _ hh => by cases hh)
        · exact H2.putD v3 (by rw [AV.top]; rfl) (fun kk g _ _ hg => ⟨(hown_s g hg).1, (hown_s g hg).2.1, fun p hp => absurd hp ((hown_s g hg).2.2.2 p)⟩)
      · rcases e4 with e4 | ⟨b, o', rfl, f1, f2, f3⟩
        · subst e4
          have : 0 < m' * d.size := Nat.mul_pos hm0 k3
          simp at k2; omega
        obtain ⟨news, n1, n2, n3⟩ := Rm_vals f3
        -- the values of the row
        have hxs : ∃ xs : List Value, AV.Rs lim bs w l xs ∧ ((a.eval s = .slice none 0 0 ∧ n = 0) ∨ ∃ g cap cur, a.eval s = .slice (some ⟨g, 0, none⟩) n cap ∧ w.heap[g]? = some (.cells cur e (0, 0)) ∧ n ≤ cap ∧ cap ≤ maxLen ∧ cur.size = cap * d.size ∧ cur.toList.take (n * d.size) = xs) ∧ (∀ g, (a.eval s).ownBlock = some g → lim g = l.length) := by
          rw [AV.R] at v3
          rcases v3.2.2 with ⟨q1, q2⟩ | ⟨g, c', cur, q1, q2, q3, q4, q5, q6, q7⟩
          · refine ⟨[], ?_, .inl ⟨q1, q2⟩, fun g hg => by rw [q1] at hg; cases hg⟩
            have : l = [] := List.eq_nil_of_length_eq_zero (by rw [v1, q2]; simp)
            rw [this, AV.Rs]
          · obtain ⟨xs, x1, x2, x3⟩ := Rm_vals q7
            have hb2 : w.heap[g]? = some (.cells cur.toList.toArray e (0, 0)) := by simpa using q2
            refine ⟨xs, x2, .inr ⟨g, c', cur, q1, q2, q3, q4, q5, ?_⟩, fun g2 hg => by rw [q1] at hg; cases hg; exact q6⟩
            have hle : n * d.size ≤ cur.size := by rw [q5]; exact Nat.mul_le_mul_right _ q3
            apply List.ext_getElem?
            intro j
            rw [List.getElem?_take]
            split
            · rename_i hj
              have hjx : j < xs.length := by rw [x1, v1]; exact hj
              have h5 := x3 j _ (List.getElem?_eq_getElem hjx)
              rw [heap_cell4 hb2, Nat.zero_add] at h5
              rw [h5, List.getElem?_eq_getElem hjx]
            · rename_i hj
              rw [List.getElem?_eq_none (by rw [x1, v1]; omega)]
        obtain ⟨xs, x1, x2, x3⟩ := hxs
        have hxl := AV.Rs_len x1
        obtain ⟨g, cap, cur', w2, r1, r2, r3, r4, r5, r6, r7, r8⟩ := run_app (P := P) (w := w) (ty := o.type) (b := b) (o' := o') (c := cp) hu hi hz hsz hby hzc k3 k4 (by rw [hxl, v1]) x2 (by rw [n1, k2]) n3 (ones_R k5 n2) hm0 k1
        have hr := hexec _ w2 (by rw [e1]; exact r1)
        have hnR : AV.Rs lim bs w (l ++ k) (xs ++ news) := Rs_append x1 n2
        have hgm : m g ∧ g ∉ bs ∧ (∀ p, ¬ Own w bs σ.bx (Sl (give σ.tm (tmpOf s)) a) p g) ∧ (w2.heap.size ≤ w.heap.size ∨ g = w.heap.size ∧ w2.heap.size = w.heap.size + 1) ∧ w.heap.size ≤ w2.heap.size ∧ g < w2.heap.size ∧ lim g ≤ (l ++ k).length ∧ (∀ j, g < w.heap.size → j < lim g → w2.cell? ⟨g, j, none⟩ = w.cell? ⟨g, j, none⟩) ∧ (∀ kk, kk < w.heap.size → kk ≠ g → w2.heap[kk]? = w.heap[kk]?) ∧ (∀ (cur : Array Value) (e : TypeId) (p : Nat × Nat), w.heap[g]? = some (Obj.cells cur e p) → ∃ cur' : Array Value, w2.heap[g]? = some (.cells cur' e p) ∧ cur'.size = cur.size) := by
          rcases r8 with ⟨g1, g2, g3, cur0, s5, s6⟩ | ⟨g1, g2, g3⟩
          · obtain ⟨s1, s2, s3, s4⟩ := hown_s g g1
            refine ⟨s1, s2, s4, .inl (by omega), by omega, by omega, by rw [x3 g g1, List.length_append]; omega, fun j _ hj => ?_, fun kk _ hk => g3 kk hk, fun cur e p hh => by rw [s5] at hh; cases hh; exact ⟨cur', r2, s6.symm⟩⟩
            rw [x3 g g1] at hj
            have hb2 : w2.heap[g]? = some (.cells cur'.toList.toArray e (0, 0)) := by simpa using r2
            rw [heap_cell4 hb2]
            rcases x2 with ⟨q1, -⟩ | ⟨g', cap', cur, q1, q2, q3, q4, q5, q6⟩
            · rw [q1] at g1; cases g1
            · rw [q1] at g1
              have hgg : g' = g := by simpa [Value.ownBlock] using g1
              subst hgg
              have hb3 : w.heap[g']? = some (.cells cur.toList.toArray e (0, 0)) := by simpa using q2
              rw [heap_cell4 hb3]
              have hj2 : j < (n + m') * d.size := by rw [Nat.add_mul]; omega
              have t1 : (cur'.toList.take ((n + m') * d.size))[j]? = (xs ++ news)[j]? := by rw [r6]
              have t2 : (cur.toList.take (n * d.size))[j]? = xs[j]? := by rw [q6]
              rw [List.getElem?_take, if_pos hj2, List.getElem?_append_left (by omega)] at t1
              rw [List.getElem?_take, if_pos (by omega)] at t2
              rw [t1, t2]
          · refine ⟨by rw [g1]; exact hm _ (Nat.le_refl _), by rw [g1]; exact fun hb => Nat.lt_irrefl _ (bs_lt H hb), fun p hp => ?_, .inr ⟨g1, g2⟩, by omega, by omega, by rw [g1, H.top _ (Nat.le_refl _)]; omega, fun j hj => by omega, fun kk hk _ => g3 kk hk, fun cur e p hh => by have := lt_of_heap hh; omega⟩
            have := Own.lt H2 hp
            omega
        obtain ⟨a1, a2, a3, a4, a5, a6, a7, a8, a9, a10⟩ := hgm
        obtain ⟨H3, hfr, hown⟩ := H2.grow (w' := w2) (g := g) (n := (l ++ k).length) a2 a1 a6 a5 r7 a9 a3 a4 a7 a8 a10
        refine wp_val hr (hK _ bs w2 _ ⟨?_, hfr, fun _ _ h => h, put_size _ _ _, put_defers _ _ _⟩)
        have hav : appV Sv e d.size (n + m') m' (l ++ k) = .row e d.size (n + m') (l ++ k) := by
          unfold appV
          split
          · obtain ⟨m2, rfl⟩ : ∃ m2, m' = m2 + 1 := ⟨m' - 1, by omega⟩
            rfl
          · rfl
        show Hold _ bs w2 (setMany σ.bx [] cs ++ []) (Sl (putD (give σ.tm (tmpOf s)) o.dst (appV Sv e d.size (n + m') m' (l ++ k))) (a.put o.dst _)) m
        rw [hav]
        rw [List.append_nil, setMany_nil, Sl_putD hd]
        refine H3.putD (row_R (by rw [List.length_append, v1, k2, Nat.add_mul]) (flats_append v2 k7) r2 r3 r4 r5 (by simp) ⟨xs ++ news, AV.Rs.ext (hfr.ext (fun _ _ h => h)) (flats_append v2 k7) hnR, r6⟩) (by rw [AV.top]; rfl) (fun kk g2 _ _ hg => ?_)
        have hgg : g = g2 := by simpa [Value.ownBlock] using hg
        subst hgg
        exact ⟨a1, a2, fun p hp => absurd (hown p _ hp) (a3 p)⟩
end Ab
end Go.Proofs.YtlmjabnkjmfcmaaGreat
/- A run on abstract values: calls. -/
namespace Go.Proofs.YtlmjabnkjmfcmaaGreat
open Go Go.RowKit Go.PlainAid
set_option linter.unusedVariables false
set_option linter.unusedSimpArgs false
namespace Ab
variable {lim lim' : Nat → Nat} {bs bs' : List Nat} {w w' : World} {P : Program} {T : Tab} {a : Act} {o : Oper} {cs : List (List AV)} {out : Out} {m : Nat → Prop} {bx bx' : List (List AV)} {S S' : Slots} {K : Act → World → Prop} {Q : Exit → Act → World → Prop} {cal : Cal} {σ σ' : ASt}
/-- Slots of arguments; the slot of a result. -/
def aS (args : List AV) (vs : List Value) : Slots := fun k => (args.getD k .bad, vs.getD k undef)
def rS (r : AV) (v : Value) : Slots := fun k => if k = 0 then (r, v) else (.bad, undef)
def Ent (P : Program) (f : Nat) : Prop := ∃ fn, P.funcs[f]? = some fn ∧ (fn.name == "runtime.NumGoroutine") = false ∧ fn.body.isNone = false
/-- What abstract calls tell is so. -/
structure CallOK (P : Program) (f : Nat) (args : List AV) (bx : List (List AV)) (r : AV) (bx' : List (List AV)) : Prop where
  ent : Ent P f
  len : bx.length ≤ bx'.length
  call : ∀ (lim : Nat → Nat) (bs : List Nat) (w : World) (vs : List Value) (m : Nat → Prop), vs.length = args.length → (∀ b, w.heap.size ≤ b → m b) → Hold lim bs w bx (aS args vs) m →
    Calls P f vs.toArray w fun e w' => ∃ v lim' bs', e = .returned v ∧ Hold lim' bs' w' bx' (rS r v) m ∧ Fr m lim w lim' w' ∧ ∀ i, i < bx.length → bs'[i]? = bs[i]?
def CallsOK (P : Program) (cal : Cal) : Prop := ∀ (f : Nat) (args : List AV) (bx : List (List AV)) (r : AV) (bx' : List (List AV)), cal f args bx = some (r, bx') → CallOK P f args bx r bx'
theorem callFunc_run {f : Nat} (h : Ent P f) (args : Array Value) : (callFunc f args).run P w = .ok (.enter f args) w := by
  obtain ⟨fn, h1, h2, h3⟩ := h
  have h2' : ¬ fn.name = "runtime.NumGoroutine" := by simpa using h2
  have h3' : ¬ fn.body = none := by intro e; rw [e] at h3; cases h3
  unfold callFunc
  simp [h1, h2', h3']
theorem idx_get : ∀ {l : List Nat} {i : Nat}, i ∈ l → l[l.idxOf i]? = some i
  | [], i, h => by cases h
  | x :: l, i, h => by
    rw [List.idxOf_cons]
    by_cases e : x = i
    · subst e; simp
    · have he : (x == i) = false := by simpa using e
      rw [he]
      rcases List.mem_cons.1 h with h | h
      · exact absurd h.symm e
      · simpa using idx_get h
theorem conts_len : ∀ {ids : List Nat} {cs : List (List AV)}, conts bx ids = some cs → cs.length = ids.length ∧ ∀ (k i : Nat), ids[k]? = some i → ∃ c, bx[i]? = some c ∧ cs[k]? = some c
  | [], cs, h => by rw [conts] at h; cases h; exact ⟨rfl, fun k i hk => by simp at hk⟩
  | j :: r, cs, h => by
    rw [conts] at h
    split at h
    · rename_i c cs' hc hcs
      cases h
      obtain ⟨h1, h2⟩ := conts_len hcs
      refine ⟨by simp [h1], fun k i hk => ?_⟩
      cases k with
      | zero => simp at hk; subst hk; exact ⟨c, hc, rfl⟩
      | succ k => obtain ⟨c2, h3, h4⟩ := h2 k i (by simpa using hk); exact ⟨c2, h3, by simpa using h4⟩
    · cases h
theorem setMany_get : ∀ {ids : List Nat} {cs : List (List AV)} {bx : List (List AV)}, ids.Nodup → cs.length = ids.length → (setMany bx ids cs).length = bx.length ∧ (∀ i, i ∉ ids → (setMany bx ids cs)[i]? = bx[i]?) ∧ (∀ (k i : Nat) (c : List AV), ids[k]? = some i → cs[k]? = some c → i < bx.length → (setMany bx ids cs)[i]? = some c)
  | [], cs, bx, _, _ => by rw [setMany_nil]; exact ⟨rfl, fun _ _ => rfl, fun k i c hk => by simp at hk⟩
  | j :: r, [], bx, _, h => by simp at h
  | j :: r, c :: cs, bx, hn, h => by
    rw [List.nodup_cons] at hn
    rw [setMany]
    obtain ⟨h1, h2, h3⟩ := setMany_get (bx := bx.set j c) hn.2 (by simpa using h)
    refine ⟨by rw [h1, List.length_set], fun i hi => ?_, fun k i c2 hk hc hl => ?_⟩
    · rw [List.mem_cons, not_or] at hi
      rw [h2 i hi.2, List.getElem?_set, if_neg (fun e => hi.1 e.symm)]
    · cases k with
      | zero =>
        simp at hk hc; subst hk hc
        rw [h2 j hn.1, List.getElem?_set, if_pos rfl, if_pos hl]
      | succ k => exact h3 k i c2 (by simpa using hk) (by simpa using hc) (by rw [List.length_set]; exact hl)
theorem mem_iff {n : Nat} : ∀ {l : List Nat}, mem n l = true ↔ n ∈ l
  | [] => by simp [mem]
  | k :: r => by
    rw [mem]
    by_cases h : n = k
    · subst h; rw [beq_self]; simp
    · rw [beq_ne h]
      simp only [List.mem_cons, h, false_or]
      exact mem_iff
theorem subs_iff {l r : List Nat} : subs l r = true ↔ ∀ i ∈ l, i ∈ r := by
  unfold subs
  rw [List.all_eq_true]
  constructor
  · intro h i hi; exact mem_iff.1 (h i hi)
  · intro h i hi; exact mem_iff.2 (h i hi)
theorem reach_nodup : ∀ (n : Nat) (bx : List (List AV)) (todo seen : List Nat), seen.Nodup → (reach n bx todo seen).Nodup
  | 0, _, _, seen, h => h
  | n + 1, bx, [], seen, h => h
  | n + 1, bx, i :: r, seen, h => by
    rw [reach]
    split
    · exact reach_nodup n bx r seen h
    · rename_i hm
      refine reach_nodup n bx _ _ ?_
      rw [List.nodup_append]
      refine ⟨h, by simp, fun y hy z hz e => ?_⟩
      rw [List.mem_singleton.1 hz] at e; subst e
      rw [mem_iff.2 hy] at hm; cases hm
/-- Boxes by a callee's numbers: where they lie. -/
theorem ren_ok {ids bsc : List Nat} (hb : ∀ (k i b : Nat), ids[k]? = some i → bs[i]? = some b → bsc[k]? = some b) {l : List Nat} (hl : ∀ i ∈ l, i ∈ ids) : ∀ i ∈ l, ∀ b, bs[i]? = some b → bsc[ids.idxOf i]? = some b :=
  fun i hi b h => hb _ i b (idx_get (hl i hi)) h
/-- What the callee may turn. -/
def mC (lim : Nat → Nat) (w : World) (bsc : List Nat) (cs : List (List AV)) (S : Slots) (b : Nat) : Prop := b ∈ bsc ∨ (∃ p, Own w bsc cs S p b) ∨ w.heap.size ≤ b
theorem map_get (bs ids : List Nat) (hids : ∀ i ∈ ids, i < bs.length) (k i b : Nat) (hk : ids[k]? = some i) (hb : bs[i]? = some b) : (ids.map fun i => bs.getD i 0)[k]? = some b := by
  rw [List.getElem?_map, hk]
  simp [hb]
/-- The boxes that are handed in, and the arguments. -/
theorem Hold.enter (H : Hold lim bs w bx S m) {ids : List Nat} (hn : ids.Nodup) (hc : conts bx ids = some cs) (hcl : ∀ c ∈ cs, ∀ i ∈ AV.idss c, i ∈ ids) {args : List AV} {vs : List Value} (hl : vs.length = args.length) (hflat : ∀ (k : Nat) (x : AV), args[k]? = some x → x.flat = true) (hR : ∀ (k : Nat) (x : AV) (v : Value), args[k]? = some x → vs[k]? = some v → AV.R lim (ids.map fun i => bs.getD i 0) w x v) :
    Hold lim (ids.map fun i => bs.getD i 0) w (cs.map (AV.rens ids.idxOf)) (aS args vs) (mC lim w (ids.map fun i => bs.getD i 0) (cs.map (AV.rens ids.idxOf)) (aS args vs)) ∧ (∀ i j g, Own w (ids.map fun i => bs.getD i 0) (cs.map (AV.rens ids.idxOf)) (aS args vs) (.b i j) g → ∃ i', ids[i]? = some i' ∧ Own w bs bx S (.b i' j) g) ∧ (∀ k g, ¬ Own w (ids.map fun i => bs.getD i 0) (cs.map (AV.rens ids.idxOf)) (aS args vs) (.t k) g) ∧ (∀ b, b ∈ (ids.map fun i => bs.getD i 0) ↔ ∃ i ∈ ids, bs[i]? = some b) := by
  obtain ⟨hcl2, hcg⟩ := conts_len hc
  have hin : ∀ i ∈ ids, i < bs.length := by
    intro i hi
    obtain ⟨k, hk, rfl⟩ := List.getElem_of_mem hi
    obtain ⟨c, h1, -⟩ := hcg k _ (List.getElem?_eq_getElem hk)
    rw [H.len]
    exact (List.getElem?_eq_some_iff.1 h1).1
  have hmem : ∀ b, b ∈ (ids.map fun i => bs.getD i 0) ↔ ∃ i ∈ ids, bs[i]? = some b := by
    intro b
    rw [List.mem_map]
    constructor
    · rintro ⟨i, hi, rfl⟩
      have := hin i hi
      exact ⟨i, hi, by simp [this]⟩
    · rintro ⟨i, hi, hb⟩
      exact ⟨i, hi, by simp [hb]⟩
  have hget : ∀ (k b : Nat), (ids.map fun i => bs.getD i 0)[k]? = some b → ∃ i, ids[k]? = some i ∧ bs[i]? = some b := by
    intro k b hk
    rw [List.getElem?_map] at hk
    cases hi : ids[k]? with
    | none => rw [hi] at hk; cases hk
    | some i =>
      rw [hi] at hk
      simp only [Option.map_some, Option.some.injEq] at hk
      have hlt := hin i (List.mem_of_getElem? hi)
      refine ⟨i, rfl, ?_⟩
      rw [← hk]; simp [hlt]
  have hgetc : ∀ (k : Nat) (x : List AV), (cs.map (AV.rens ids.idxOf))[k]? = some x → ∃ c, cs[k]? = some c ∧ x = AV.rens ids.idxOf c := by
    intro k x hk
    rw [List.getElem?_map] at hk
    cases hi : cs[k]? with
    | none => rw [hi] at hk; cases hk
    | some c => rw [hi] at hk; cases hk; exact ⟨c, rfl, rfl⟩
  have hsub : ∀ b, b ∈ (ids.map fun i => bs.getD i 0) → b ∈ bs := fun b hb => by
    obtain ⟨i, -, h⟩ := (hmem b).1 hb
    exact List.mem_of_getElem? h
  have hslot : ∀ k g, ¬ Own w (ids.map fun i => bs.getD i 0) (cs.map (AV.rens ids.idxOf)) (aS args vs) (.t k) g := by
    rintro k g ⟨h1, -⟩
    have h1' : (args.getD k .bad).isRow = true := h1
    rw [List.getD_eq_getElem?_getD] at h1'
    cases hx : args[k]? with
    | none => rw [hx] at h1'; cases h1'
    | some x =>
      rw [hx] at h1'
      have h2 : x.isRow = true := h1'
      rw [flat_row (hflat k x hx)] at h2; cases h2
  have hbox : ∀ i j g, Own w (ids.map fun i => bs.getD i 0) (cs.map (AV.rens ids.idxOf)) (aS args vs) (.b i j) g → ∃ i', ids[i]? = some i' ∧ Own w bs bx S (.b i' j) g := by
    rintro i j g ⟨b, x, y, v, q1, q2, q3, q4, q5, q6⟩
    obtain ⟨i', h1, h2⟩ := hget i b q1
    obtain ⟨c, h3, h4⟩ := hcg i i' h1
    obtain ⟨c', h5, h6⟩ := hgetc i x q2
    rw [h4] at h5; cases h5
    subst h6
    rw [AV.rens_map, List.getElem?_map] at q3
    cases hy : c[j]? with
    | none => rw [hy] at q3; cases q3
    | some y' =>
      rw [hy] at q3
      simp only [Option.map_some, Option.some.injEq] at q3
      subst q3
      rw [AV.isRow_ren] at q4
      exact ⟨i', h1, b, c, y', v, h2, h3, hy, q4, q5, q6⟩
  refine ⟨⟨by rw [List.length_map, List.length_map, hcl2], ?_, fun b hb => H.free b (hsub b hb), fun b hb => .inl hb, fun k b x hk hx => ?_, fun k => ?_, fun k => ?_, H.top, fun p g hp => ⟨.inr (.inl ⟨p, hp⟩), fun hb => ?_⟩, fun p q g hp hq => ?_⟩, hbox, hslot, hmem⟩
  · rw [List.nodup_iff_pairwise_ne, List.pairwise_iff_getElem]
    intro i j hi hj hij e
    have h1 := hget i _ (List.getElem?_eq_getElem hi)
    have h2 := hget j _ (List.getElem?_eq_getElem hj)
    obtain ⟨i1, a1, a2⟩ := h1
    obtain ⟨j1, b1, b2⟩ := h2
    rw [← e] at b2
    have := nodup_inj H.nod a2 b2
    subst this
    have := nodup_inj hn a1 b1
    omega
  · obtain ⟨i, h1, h2⟩ := hget k b hk
    obtain ⟨c, h3, h4⟩ := hcg k i h1
    obtain ⟨c', h5, h6⟩ := hgetc k x hx
    rw [h4] at h5; cases h5
    subst h6
    obtain ⟨C, tl, t, g1, g2, g3⟩ := H.box i b c h2 h3
    refine ⟨C, tl, t, g1, AV.Rs.ren (ren_ok (fun k' i' b' e1 e2 => map_get bs ids hin k' i' b' e1 e2) (hcl c (List.mem_of_getElem? h4))) g2, ?_⟩
    rw [AV.rens_map, List.all_map, List.all_eq_true]
    rw [List.all_eq_true] at g3
    intro y hy
    show (y.ren _).top = true
    rw [AV.top_ren]; exact g3 y hy
  · show AV.R lim _ w (args.getD k .bad) (vs.getD k undef)
    rw [List.getD_eq_getElem?_getD, List.getD_eq_getElem?_getD]
    cases hx : args[k]? with
    | none => exact R_bad _
    | some x =>
      have hlt : k < vs.length := by
        rw [hl]
        exact (List.getElem?_eq_some_iff.1 hx).1
      rw [List.getElem?_eq_getElem hlt]
      exact hR k x _ hx (List.getElem?_eq_getElem hlt)
  · show (args.getD k .bad).top = true
    rw [List.getD_eq_getElem?_getD]
    cases hx : args[k]? with
    | none => rfl
    | some x =>
      show x.top = true
      rw [AV.top, hflat k x hx]; simp
  · cases p with
    | t k => exact hslot k g hp
    | b i j =>
      obtain ⟨i', -, ho⟩ := hbox i j g hp
      exact (H.own _ _ ho).2 (hsub g hb)
  · cases p with
    | t k => exact absurd hp (hslot k g)
    | b i j =>
      cases q with
      | t k => exact absurd hq (hslot k g)
      | b i2 j2 =>
        obtain ⟨i', h1, ho⟩ := hbox i j g hp
        obtain ⟨i2', h2, ho2⟩ := hbox i2 j2 g hq
        have := H.dist _ _ g ho ho2
        cases this
        have := nodup_inj hn h1 h2
        rw [this]
end Ab
end Go.Proofs.YtlmjabnkjmfcmaaGreat
/- A run on abstract values: behind a call. -/
namespace Go.Proofs.YtlmjabnkjmfcmaaGreat
open Go Go.RowKit Go.PlainAid
set_option linter.unusedVariables false
set_option linter.unusedSimpArgs false
namespace Ab
variable {lim lim' : Nat → Nat} {bs bs' : List Nat} {w w' : World} {P : Program} {T : Tab} {a : Act} {o : Oper} {cs : List (List AV)} {out : Out} {m : Nat → Prop} {bx bx' : List (List AV)} {S S' : Slots} {K : Act → World → Prop} {Q : Exit → Act → World → Prop} {cal : Cal} {σ σ' : ASt}
theorem rens_get {f : Nat → Nat} {l : List AV} {j : Nat} {y : AV} (h : (AV.rens f l)[j]? = some y) : ∃ z, l[j]? = some z ∧ y = z.ren f := by
  rw [AV.rens_map, List.getElem?_map] at h
  cases hy : l[j]? with
  | none => rw [hy] at h; cases h
  | some z => rw [hy] at h; cases h; exact ⟨z, rfl, rfl⟩
theorem tops_rens {f : Nat → Nat} {l : List AV} (h : l.all AV.top = true) : (AV.rens f l).all AV.top = true := by
  rw [AV.rens_map, List.all_map, List.all_eq_true]
  rw [List.all_eq_true] at h
  intro y hy
  show (y.ren _).top = true
  rw [AV.top_ren]; exact h y hy
/-- Behind a call: all put together. -/
theorem Hold.leave (H : Hold lim bs w bx S m) (hm : ∀ b, w.heap.size ≤ b → m b) {ids : List Nat} (hn : ids.Nodup) (hc : conts bx ids = some cs) {bx' : List (List AV)} (hlen : ids.length ≤ bx'.length) {r : AV} {v : Value} {Sc : Slots} {bsc bsn : List Nat} (hbsc : bsc = ids.map fun i => bs.getD i 0) (hpre : ∀ i, i < ids.length → bsn[i]? = bsc[i]?)
    (hbox : ∀ i j g, Own w bsc (cs.map (AV.rens ids.idxOf)) Sc (.b i j) g → ∃ i', ids[i]? = some i' ∧ Own w bs bx S (.b i' j) g) (hslot : ∀ k g, ¬ Own w bsc (cs.map (AV.rens ids.idxOf)) Sc (.t k) g) (hmem : ∀ b, b ∈ bsc ↔ ∃ i ∈ ids, bs[i]? = some b)
    (H' : Hold lim' bsn w' bx' (rS r v) (mC lim w bsc (cs.map (AV.rens ids.idxOf)) Sc)) (hfr : Fr (mC lim w bsc (cs.map (AV.rens ids.idxOf)) Sc) lim w lim' w') (d : Option Nat) :
    Hold lim' (bs ++ bsn.drop ids.length) w' (setMany bx ids ((bx'.take ids.length).map (AV.rens (unId ids bx.length))) ++ (bx'.drop ids.length).map (AV.rens (unId ids bx.length))) (upD S d (r.ren (unId ids bx.length), v)) m ∧ Fr m lim w lim' w' := by
  subst hbsc
  obtain ⟨hcl, hcg⟩ := conts_len hc
  obtain ⟨NB, hNB⟩ : ∃ l, l = (bx'.take ids.length).map (AV.rens (unId ids bx.length)) := ⟨_, rfl⟩
  rw [← hNB]
  have hNBl : NB.length = ids.length := by rw [hNB, List.length_map, List.length_take]; omega
  have hNBg : ∀ (k : Nat) (c : List AV), NB[k]? = some c → ∃ c', bx'[k]? = some c' ∧ c = AV.rens (unId ids bx.length) c' := by
    intro k c hk
    rw [hNB, List.getElem?_map] at hk
    cases hh : (bx'.take ids.length)[k]? with
    | none => rw [hh] at hk; cases hk
    | some c' =>
      rw [hh] at hk; cases hk
      rw [List.getElem?_take] at hh
      split at hh
      · exact ⟨c', hh, rfl⟩
      · cases hh
  obtain ⟨hs1, hs2, hs3⟩ := setMany_get (bx := bx) hn hNBl
  have hin : ∀ i ∈ ids, i < bs.length := by
    intro i hi
    obtain ⟨k, hk, rfl⟩ := List.getElem_of_mem hi
    obtain ⟨c, h1, -⟩ := hcg k _ (List.getElem?_eq_getElem hk)
    rw [H.len]
    exact (List.getElem?_eq_some_iff.1 h1).1
  have hsub : ∀ b, b ∈ (ids.map fun i => bs.getD i 0) → b ∈ bs := fun b hb => by
    obtain ⟨i, -, h⟩ := (hmem b).1 hb
    exact List.mem_of_getElem? h
  have hnl : bsn.length = bx'.length := H'.len
  -- the callee's boxes, by the caller's numbers
  have hun : ∀ (j b : Nat), bsn[j]? = some b → (bs ++ bsn.drop ids.length)[unId ids bx.length j]? = some b := by
    intro j b hj
    unfold unId
    cases hi : ids[j]? with
    | some i =>
      have hjl : j < ids.length := (List.getElem?_eq_some_iff.1 hi).1
      rw [hpre j hjl, List.getElem?_map, hi] at hj
      simp only [Option.map_some, Option.some.injEq] at hj
      have hlt := hin i (List.mem_of_getElem? hi)
      simp only []
      rw [List.getElem?_append_left hlt, ← hj]
      simp [hlt]
    | none =>
      have hjl : ids.length ≤ j := List.getElem?_eq_none_iff.1 hi
      simp only []
      rw [List.getElem?_append_right (by rw [H.len]; omega), List.getElem?_drop, H.len]
      rw [show ids.length + (bx.length + (j - ids.length) - bx.length) = j by omega]; exact hj
  have hmC : ∀ b, b < w.heap.size → mC lim w (ids.map fun i => bs.getD i 0) (cs.map (AV.rens ids.idxOf)) Sc b → m b := by
    intro b hb hmc
    rcases hmc with h | ⟨p, hp⟩ | h
    · exact H.mb b (hsub b h)
    · cases p with
      | t k => exact absurd hp (hslot k b)
      | b i j => obtain ⟨i', -, ho⟩ := hbox i j b hp; exact (H.own _ _ ho).1
    · omega
  have hmC2 : ∀ b, mC lim w (ids.map fun i => bs.getD i 0) (cs.map (AV.rens ids.idxOf)) Sc b → m b := fun b h => by
    rcases Nat.lt_or_ge b w.heap.size with h' | h'
    · exact hmC b h' h
    · exact hm b h'
  have hfrm : Fr m lim w lim' w' := hfr.weak hmC
  have hids2 : ∀ (i b : Nat), bs[i]? = some b → (bs ++ bsn.drop ids.length)[i]? = some b := fun i b h => by
    rw [List.getElem?_append_left (List.getElem?_eq_some_iff.1 h).1]; exact h
  have hext : AV.Ext lim bs w lim' (bs ++ bsn.drop ids.length) w' := hfrm.ext hids2
  -- what the callee may not turn
  have hfar : ∀ p g, Own w bs bx S p g → (∀ i j, p = .b i j → i ∉ ids) → ¬ mC lim w (ids.map fun i => bs.getD i 0) (cs.map (AV.rens ids.idxOf)) Sc g := by
    intro p g hp hpi hmc
    rcases hmc with h | ⟨q, hq⟩ | h
    · exact (H.own p g hp).2 (hsub g h)
    · cases q with
      | t k => exact absurd hq (hslot k g)
      | b i j =>
        obtain ⟨i', h1, ho⟩ := hbox i j g hq
        have := H.dist p _ g hp ho
        exact hpi i' j this (List.mem_of_getElem? h1)
    · exact absurd (Own.lt H hp) (by omega)
  have hfarb : ∀ i b, i ∉ ids → bs[i]? = some b → ¬ mC lim w (ids.map fun i => bs.getD i 0) (cs.map (AV.rens ids.idxOf)) Sc b := by
    intro i b hi hb hmc
    have hbm := List.mem_of_getElem? hb
    rcases hmc with h | ⟨q, hq⟩ | h
    · obtain ⟨i2, h1, h2⟩ := (hmem b).1 h
      have := nodup_inj H.nod hb h2
      subst this; exact hi h1
    · cases q with
      | t k => exact absurd hq (hslot k b)
      | b i2 j =>
        obtain ⟨i', h1, ho⟩ := hbox i2 j b hq
        exact (H.own _ _ ho).2 hbm
    · exact absurd (bs_lt H hbm) (by omega)
  -- new boxes are none of ours
  have hnewb : ∀ b, b ∈ bsn.drop ids.length → b ∉ bs := by
    intro b hb hbs
    obtain ⟨k, hk, rfl⟩ := List.getElem_of_mem hb
    have hk2 : bsn[ids.length + k]? = some ((bsn.drop ids.length)[k]) := by rw [← List.getElem?_drop]; exact List.getElem?_eq_getElem hk
    rcases H'.mb _ (List.mem_of_getElem? hk2) with h | ⟨q, hq⟩ | h
    · obtain ⟨k0, h0, e⟩ := List.getElem_of_mem h
      have hk0 : k0 < ids.length := by simpa using h0
      have : bsn[k0]? = some ((bsn.drop ids.length)[k]) := by rw [hpre k0 hk0, List.getElem?_eq_getElem h0, e]
      have := nodup_inj H'.nod hk2 this
      omega
    · cases q with
      | t k => exact absurd hq (hslot k _)
      | b i2 j =>
        obtain ⟨i', h1, ho⟩ := hbox i2 j _ hq
        exact (H.own _ _ ho).2 hbs
    · exact absurd (bs_lt H hbs) (by omega)
  -- boxes of the new state
  have hcase : ∀ (i b : Nat) (x : List AV), (bs ++ bsn.drop ids.length)[i]? = some b → (setMany bx ids NB ++ (bx'.drop ids.length).map (AV.rens (unId ids bx.length)))[i]? = some x →
      (∃ j c, unId ids bx.length j = i ∧ bsn[j]? = some b ∧ bx'[j]? = some c ∧ x = AV.rens (unId ids bx.length) c ∧ (j < ids.length ∨ i = bx.length + (j - ids.length))) ∨ (i ∉ ids ∧ bs[i]? = some b ∧ bx[i]? = some x) := by
    intro i b x hb hx
    rcases Nat.lt_or_ge i bx.length with hi | hi
    · rw [List.getElem?_append_left (by rw [H.len]; exact hi)] at hb
      rw [List.getElem?_append_left (by rw [hs1]; exact hi)] at hx
      by_cases hii : i ∈ ids
      · obtain ⟨k, hk, hki⟩ := List.getElem_of_mem hii
        have hk2 : ids[k]? = some i := by rw [← hki]; exact List.getElem?_eq_getElem hk
        rw [hs3 k i (NB[k]'(by omega)) hk2 (List.getElem?_eq_getElem (by omega)) hi] at hx
        cases hx
        obtain ⟨c', h1, h2⟩ := hNBg k _ (List.getElem?_eq_getElem (by omega))
        refine .inl ⟨k, c', by unfold unId; rw [hk2], ?_, h1, h2, .inl hk⟩
        rw [hpre k hk, List.getElem?_map, hk2]; simp [hb]
      · rw [hs2 i hii] at hx
        exact .inr ⟨hii, hb, hx⟩
    · rw [List.getElem?_append_right (by rw [H.len]; exact hi), List.getElem?_drop, H.len] at hb
      rw [List.getElem?_append_right (by rw [hs1]; exact hi), hs1, List.getElem?_map, List.getElem?_drop] at hx
      cases hh : bx'[ids.length + (i - bx.length)]? with
      | none => rw [hh] at hx; cases hx
      | some c =>
        rw [hh] at hx; cases hx
        refine .inl ⟨ids.length + (i - bx.length), c, ?_, hb, hh, rfl, .inr (by omega)⟩
        unfold unId
        rw [List.getElem?_eq_none (by omega)]
        simp only []; omega
  have hinj : ∀ j k, j < bsn.length → k < bsn.length → unId ids bx.length j = unId ids bx.length k → j = k := by
    intro j k hj hk e
    have h1 := hun j _ (List.getElem?_eq_getElem hj)
    have h2 := hun k _ (List.getElem?_eq_getElem hk)
    rw [e, h2] at h1
    simp only [Option.some.injEq] at h1
    exact nodup_inj H'.nod (List.getElem?_eq_getElem hj) (by rw [List.getElem?_eq_getElem hk, h1])
  -- each row is the callee's, or stands as it stood
  have hcls : ∀ p g, Own w' (bs ++ bsn.drop ids.length) (setMany bx ids NB ++ (bx'.drop ids.length).map (AV.rens (unId ids bx.length))) (upD S d (r.ren (unId ids bx.length), v)) p g → (∃ q, Own w' bsn bx' (rS r v) q g ∧ ((∃ k, d = some k ∧ p = .t k ∧ q = .t 0) ∨ ∃ k j, k < bsn.length ∧ p = .b (unId ids bx.length k) j ∧ q = .b k j)) ∨ (Own w bs bx S p g ∧ ¬ mC lim w (ids.map fun i => bs.getD i 0) (cs.map (AV.rens ids.idxOf)) Sc g) := by
    intro p g hp
    cases p with
    | t k =>
      have hold : ∀ (h : Own w bs bx S (.t k) g), (∃ q, Own w' bsn bx' (rS r v) q g ∧ ((∃ k', d = some k' ∧ Loc.t k = .t k' ∧ q = .t 0) ∨ ∃ k' j, k' < bsn.length ∧ Loc.t k = .b (unId ids bx.length k') j ∧ q = .b k' j)) ∨ (Own w bs bx S (.t k) g ∧ ¬ mC lim w (ids.map fun i => bs.getD i 0) (cs.map (AV.rens ids.idxOf)) Sc g) := fun h => .inr ⟨h, hfar _ g h (fun i j e => by cases e)⟩
      cases d with
      | none => exact hold hp
      | some dk =>
        obtain ⟨p1, p2⟩ := hp
        have p1' : (up S dk (r.ren (unId ids bx.length), v) k).1.isRow = true := p1
        have p2' : (up S dk (r.ren (unId ids bx.length), v) k).2.ownBlock = some g := p2
        unfold up at p1' p2'
        by_cases e : k = dk
        · rw [if_pos e] at p1' p2'
          exact .inl ⟨.t 0, ⟨by rw [AV.isRow_ren] at p1'; exact p1', p2'⟩, .inl ⟨dk, rfl, by rw [e], rfl⟩⟩
        · rw [if_neg e] at p1' p2'
          exact hold ⟨p1', p2'⟩
    | b i j =>
      obtain ⟨b, x, y, u, q1, q2, q3, q4, q5, q6⟩ := hp
      rcases hcase i b x q1 q2 with ⟨k, c, e1, e2, e3, e4, -⟩ | ⟨hi, e1, e2⟩
      · subst e4
        obtain ⟨z, hz, rfl⟩ := rens_get q3
        rw [AV.isRow_ren] at q4
        exact .inl ⟨.b k j, ⟨b, c, z, u, e2, e3, hz, q4, q5, q6⟩, .inr ⟨k, j, (List.getElem?_eq_some_iff.1 e2).1, by rw [e1], rfl⟩⟩
      · have hnb := hfarb i b hi e1
        have hsame := (hfr.keep b (bs_lt H (List.mem_of_getElem? e1)) hnb).1
        have ho : Own w bs bx S (.b i j) g := ⟨b, x, y, u, e1, e2, q3, q4, by rw [← World.cell?_of_block (w' := w') hsame]; exact q5, q6⟩
        exact .inr ⟨ho, hfar _ g ho (fun i2 j2 e => by cases e; exact hi)⟩
  have hnotbs : ∀ q g, Own w' bsn bx' (rS r v) q g → m g ∧ g ∉ bs ++ bsn.drop ids.length := by
    intro q g hq
    obtain ⟨h1, h2⟩ := H'.own q g hq
    have hd2 : g ∉ bsn.drop ids.length := fun h => h2 (List.mem_of_mem_drop h)
    refine ⟨hmC2 g h1, fun hh => ?_⟩
    rcases List.mem_append.1 hh with hh | hh
    · rcases h1 with h | ⟨p, hp⟩ | h
      · -- a box that was handed in is a box of the callee still
        obtain ⟨k0, h0, e⟩ := List.getElem_of_mem h
        have hk0 : k0 < ids.length := by simpa using h0
        exact h2 (List.mem_of_getElem? (show bsn[k0]? = some g by rw [hpre k0 hk0, List.getElem?_eq_getElem h0, e]))
      · cases p with
        | t k => exact absurd hp (hslot k g)
        | b i j => obtain ⟨i', -, ho⟩ := hbox i j g hp; exact (H.own _ _ ho).2 hh
      · have := bs_lt H hh; omega
    · exact hd2 hh
  refine ⟨⟨?_, ?_, fun b hb => ?_, fun b hb => ?_, fun i b x hi hx => ?_, fun k => ?_, fun k => ?_, H'.top, fun p g hp => ?_, fun p q g hp hq => ?_⟩, hfrm⟩
  · rw [List.length_append, List.length_append, hs1, H.len, List.length_map, List.length_drop, List.length_drop, hnl]
  · rw [List.nodup_append]
    exact ⟨H.nod, H'.nod.sublist (List.drop_sublist _ _), fun x hx y hy e => hnewb y hy (e ▸ hx)⟩
  · rcases List.mem_append.1 hb with hb | hb
    · by_cases hbi : b ∈ (ids.map fun i => bs.getD i 0)
      · obtain ⟨k0, h0, e⟩ := List.getElem_of_mem hbi
        have hk0 : k0 < ids.length := by simpa using h0
        exact H'.free b (List.mem_of_getElem? (show bsn[k0]? = some b by rw [hpre k0 hk0, List.getElem?_eq_getElem h0, e]))
      · obtain ⟨i, hi, rfl⟩ := List.getElem_of_mem hb
        have hnot : i ∉ ids := fun h => hbi ((hmem _).2 ⟨i, h, List.getElem?_eq_getElem hi⟩)
        have := hfarb i _ hnot (List.getElem?_eq_getElem hi)
        rw [(hfr.keep _ (bs_lt H hb) this).2]
        exact H.free _ hb
    · exact H'.free b (List.mem_of_mem_drop hb)
  · rcases List.mem_append.1 hb with hb | hb
    · exact H.mb b hb
    · exact hmC2 b (H'.mb b (List.mem_of_mem_drop hb))
  · rcases hcase i b x hi hx with ⟨k, c, e1, e2, e3, e4, -⟩ | ⟨hii, e1, e2⟩
    · subst e4
      obtain ⟨C, tl, t, g1, g2, g3⟩ := H'.box k b c e2 e3
      exact ⟨C, tl, t, g1, AV.Rs.ren (fun j _ b2 hb2 => hun j b2 hb2) g2, tops_rens g3⟩
    · have hnb := hfarb i b hii e1
      obtain ⟨C, tl, t, g1, g2, g3⟩ := H.box i b x e1 e2
      have hkeep := hfr.keep b (lt_of_heap g1) hnb
      refine ⟨C, tl, t, hkeep.1.trans g1, Rs_keep hext g3 (fun j y u g hy hu hr hg => ?_) g2, g3⟩
      have ho : Own w bs bx S (.b i j) g := ⟨b, x, y, u, e1, e2, hy, hr, heap_cellP g1 hu, hg⟩
      exact hfr.keep g (Own.lt H ho) (hfar _ g ho (fun i2 j2 e => by cases e; exact hii))
  · have hS : ∀ k, AV.R lim' (bs ++ bsn.drop ids.length) w' (S k).1 (S k).2 := fun k => AV.R.keep hext (H.slotT k) (fun g h1 h2 => hfr.keep g (Own.lt H (p := .t k) ⟨h1, h2⟩) (hfar (.t k) g ⟨h1, h2⟩ (fun i j e => by cases e))) (H.slot k)
    cases d with
    | none => exact hS k
    | some dk =>
      show AV.R lim' _ w' (up S dk (r.ren _, v) k).1 (up S dk (r.ren _, v) k).2
      unfold up
      split
      · exact AV.R.ren (fun j _ b2 hb2 => hun j b2 hb2) (H'.slot 0)
      · exact hS k
  · cases d with
    | none => exact H.slotT k
    | some dk =>
      show (up S dk (r.ren _, v) k).1.top = true
      unfold up
      split
      · show (r.ren _).top = true
        rw [AV.top_ren]; exact H'.slotT 0
      · exact H.slotT k
  · rcases hcls p g hp with ⟨q, hq, -⟩ | ⟨ho, n1⟩
    · exact hnotbs q g hq
    · refine ⟨(H.own p g ho).1, fun hh => ?_⟩
      rcases List.mem_append.1 hh with hh | hh
      · exact (H.own p g ho).2 hh
      · exact n1 (H'.mb g (List.mem_of_mem_drop hh))
  · rcases hcls p g hp with ⟨p', hp', e1⟩ | ⟨ho, n1⟩
    · rcases hcls q g hq with ⟨q', hq', e2⟩ | ⟨ho2, n2⟩
      · have := H'.dist p' q' g hp' hq'
        subst this
        rcases e1 with ⟨k, a1, a2, a3⟩ | ⟨k, j, a1, a2, a3⟩
        · rcases e2 with ⟨k2, b1, b2, b3⟩ | ⟨k2, j2, b1, b2, b3⟩
          · rw [a1] at b1; cases b1; rw [a2, b2]
          · rw [a3] at b3; cases b3
        · rcases e2 with ⟨k2, b1, b2, b3⟩ | ⟨k2, j2, b1, b2, b3⟩
          · rw [a3] at b3; cases b3
          · rw [a3] at b3; cases b3
            rw [a2, b2]
      · exact absurd (H'.own p' g hp').1 n2
    · rcases hcls q g hq with ⟨q', hq', e2⟩ | ⟨ho2, n2⟩
      · exact absurd (H'.own q' g hq').1 n1
      · exact H.dist p q g ho ho2
end Ab
end Go.Proofs.YtlmjabnkjmfcmaaGreat
/- A run on abstract values: any single operation. -/
namespace Go.Proofs.YtlmjabnkjmfcmaaGreat
open Go Go.RowKit Go.PlainAid
set_option linter.unusedVariables false
set_option linter.unusedSimpArgs false
namespace Ab
variable {lim lim' : Nat → Nat} {bs bs' : List Nat} {w w' : World} {P : Program} {T : Tab} {a : Act} {o : Oper} {cs : List (List AV)} {out : Out} {m : Nat → Prop} {bx bx' : List (List AV)} {S S' : Slots} {K : Act → World → Prop} {Q : Exit → Act → World → Prop} {cal : Cal} {σ σ' : ASt}
/-- The values of operands. -/
theorem val_Av (H : Hold lim bs w bx (Sl σ.tm a) m) (x : Operand) : Av lim bs w (val σ.tm x) (a.eval x) ∧ ((val σ.tm x).isRow = true → ∃ t, x = .tmp t ∧ val σ.tm x = get σ.tm t) := by
  cases x with
  | tmp t => exact ⟨⟨H.slot t, H.slotT t⟩, fun _ => ⟨t, rfl, rfl⟩⟩
  | const v =>
    have key : AV.R lim bs w (cst v) v ∧ (cst v).top = true ∧ (cst v).isRow = false := by
      unfold cst
      split
      · exact ⟨by rw [AV.R], rfl, rfl⟩
      · exact ⟨by rw [AV.R], rfl, rfl⟩
      · exact ⟨by rw [AV.R], rfl, rfl⟩
      · exact ⟨by rw [AV.R], rfl, rfl⟩
      · exact ⟨R_bad _, rfl, rfl⟩
    exact ⟨⟨key.1, key.2.1⟩, fun h => by rw [show val σ.tm (.const v) = cst v from rfl, key.2.2] at h; cases h⟩
  | func f =>
    refine ⟨⟨?_, rfl⟩, fun h => by cases h⟩
    show AV.R lim bs w (.fn f []) _
    rw [AV.R]
    exact ⟨#[], rfl, by rw [AV.Rs]⟩
  | global g => exact ⟨⟨R_bad _, rfl⟩, fun h => by cases h⟩
theorem Rs_of_map (H : Hold lim bs w bx (Sl σ.tm a) m) : ∀ (l : List Operand), AV.Rs lim bs w ((l.map (val σ.tm)).map AV.dem) (l.map a.eval) ∧ AV.flats ((l.map (val σ.tm)).map AV.dem) = true
  | [] => ⟨by rw [List.map_nil, List.map_nil, List.map_nil, AV.Rs], rfl⟩
  | x :: l => by
    obtain ⟨h1, h2⟩ := Rs_of_map H l
    have hv := (val_Av H x).1
    simp only [List.map_cons] at h1 h2 ⊢
    rw [AV.Rs, AV.flats, hv.flat, h2]
    exact ⟨⟨_, _, rfl, hv.r.dem, h1⟩, rfl⟩
theorem Ps_of (H : Hold lim bs w bx (Sl σ.tm a) m) : ∀ (l : List (Nat × Operand)), Ps lim bs w (pvals (val σ.tm) l) (l.map fun p => (p.1, a.eval p.2))
  | [] => .nil
  | (i, x) :: l => .cons (val_Av H x).1 (Ps_of H l)
theorem call_goes (HC : CallsOK P cal) (H : Hold lim bs w σ.bx (Sl σ.tm a) m) (hm : ∀ b, w.heap.size ≤ b → m b) (hd : ∀ k, o.dst = some k → k < a.tmps.size) {c : Call} {f : Operand} (ho : o.op = .call c) (hc : c.callee = .value f) {ids : List Nat} (hnd : ids.Nodup) (hcs : conts σ.bx ids = some cs)
    (h : cCall cal ids σ.bx.length (val σ.tm f) (c.args.toList.map (val σ.tm)) cs = some out) (hok : out.ok = true) (hK : Kont m lim bs w a (fin o.dst out ids [] σ) K) : o.wp P a w K Q := by
  unfold cCall at h
  split at h
  · rename_i g cap hf
    split at h
    · rename_i hk
      obtain ⟨k1, k2, k3⟩ := hk
      split at h
      · rename_i r bx' hcal
        cases h
        have blen : ids.length ≤ bx'.length := by
          have h1 := hok
          simp only [Bool.and_eq_true, decide_eq_true_eq] at h1
          exact h1.1
        obtain ⟨ent, -, hcall⟩ := HC g _ _ r bx' hcal
        have hfr := (val_Av H f).1.r
        rw [hf, AV.R] at hfr
        obtain ⟨vc, hfe, hcap⟩ := hfr
        obtain ⟨hargs, hflat⟩ := Rs_of_map H c.args.toList
        -- all arguments
        obtain ⟨ys, hys⟩ : ∃ ys, ys = (c.args.toList.map (val σ.tm)).map AV.dem ++ cap := ⟨_, rfl⟩
        rw [← hys] at hcal hcall k2
        have hall : AV.Rs lim bs w ys (c.args.toList.map a.eval ++ vc.toList) := by rw [hys]; exact Rs_append hargs hcap
        have hyf : AV.flats ys = true := by rw [hys]; exact flats_append hflat k1
        have hylen := AV.Rs_len hall
        rw [subs_iff] at k2
        rw [List.all_eq_true] at k3
        obtain ⟨hcl, hcg⟩ := conts_len hcs
        have hin : ∀ i ∈ ids, i < bs.length := by
          intro i hi
          obtain ⟨k, hk, rfl⟩ := List.getElem_of_mem hi
          obtain ⟨c2, h1, -⟩ := hcg k _ (List.getElem?_eq_getElem hk)
          rw [H.len]
          exact (List.getElem?_eq_some_iff.1 h1).1
        have hall2 : AV.Rs lim (ids.map fun i => bs.getD i 0) w (AV.rens ids.idxOf ys) (c.args.toList.map a.eval ++ vc.toList) := AV.Rs.ren (ren_ok (fun k i b e1 e2 => map_get bs ids hin k i b e1 e2) k2) hall
        have hlen2 : (c.args.toList.map a.eval ++ vc.toList).length = (AV.rens ids.idxOf ys).length := AV.Rs_len hall2
        have hgetR : ∀ (k : Nat) (x : AV) (v : Value), (AV.rens ids.idxOf ys)[k]? = some x → (c.args.toList.map a.eval ++ vc.toList)[k]? = some v → AV.R lim (ids.map fun i => bs.getD i 0) w x v := by
          intro k x v hk hv
          obtain ⟨v', h1, h2⟩ := Rs_get hall2 hk
          rw [hv] at h1; cases h1
          exact h2
        have hgetF : ∀ (k : Nat) (x : AV), (AV.rens ids.idxOf ys)[k]? = some x → x.flat = true := fun k x hk => flats_get (by rw [AV.flats_rens]; exact hyf) hk
        obtain ⟨HE, hE1, hE2, hE3⟩ := H.enter hnd hcs (fun c hc i hi => subs_iff.1 (k3 c hc) i hi) (args := AV.rens ids.idxOf ys) (vs := c.args.toList.map a.eval ++ vc.toList) hlen2 hgetF hgetR
        have hrun : (execOp a.eval o).run P w = .ok (.enter g (c.args.map a.eval ++ vc)) w := by
          unfold execOp
          simp only [ho, resolve, hc, hfe, Deferred.ofValue, Sem.run_bind, Sem.run_pure, Result.andThen_ok, invoke, Array.empty_append]
          exact callFunc_run ent _
        have hvs : (c.args.toList.map a.eval ++ vc.toList).toArray = c.args.map a.eval ++ vc := by
          rw [← Array.toList_inj]; simp
        unfold Oper.wp
        rw [hrun]
        show Calls P g (c.args.map a.eval ++ vc) w _
        rw [← hvs]
        refine (hcall lim _ w _ _ hlen2 (fun b hb => .inr (.inr hb)) HE).mono ?_
        rintro e w' ⟨v, lim', bsn, rfl, H', hfr', hpre⟩
        obtain ⟨HL, hfl⟩ := H.leave hm hnd hcs blen rfl (fun i hi => hpre i (by rw [List.length_map, hcl]; exact hi)) hE1 hE2 hE3 H' hfr' o.dst
        refine hK lim' (bs ++ bsn.drop ids.length) w' _ ⟨?_, hfl, fun i b hi => by rw [List.getElem?_append_left (List.getElem?_eq_some_iff.1 hi).1]; exact hi, put_size _ _ _, put_defers _ _ _⟩
        show Hold lim' _ w' _ (Sl (putD σ.tm o.dst (r.ren (unId ids σ.bx.length))) (a.put o.dst v)) m
        rw [Sl_putD hd]
        exact HL
      · cases h
    · cases h
  · cases h
end Ab
end Go.Proofs.YtlmjabnkjmfcmaaGreat
