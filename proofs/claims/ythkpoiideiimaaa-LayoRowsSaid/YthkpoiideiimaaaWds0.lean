/- A list of words in brackets: its layouts in memory; what a walk asks of it. -/
import Derived.Test.YthkpoiideiimaaaGrows
import Derived.Test.YthkpoiideiimaaaRws0
namespace Go.Proofs.Ythkpoiideiimaaa
open Go Go.RowKit Go.PlainAid
set_option linter.unusedVariables false
open Bk (Fo)
namespace Bk
/-- The cells of leaves. -/
def flatV : Fo → List Value
  | .nil => []
  | .cons k t n kids rest => .int .i64 k :: .string t :: .int .i64 n :: .slice none 0 0 :: flatV rest
def FlatF : Fo → Prop
  | .nil => True
  | .cons k t n kids rest => kids = .nil ∧ FlatF rest
theorem flatV_app : ∀ F G : Fo, flatV (F.app G) = flatV F ++ flatV G
  | .nil, G => rfl
  | .cons k t n kids r, G => by simp only [Fo.app, flatV, flatV_app r G, List.cons_append]
theorem flat_app : ∀ {F G : Fo}, FlatF F → FlatF G → FlatF (F.app G)
  | .nil, G, _, h => h
  | .cons k t n kids r, G, ⟨h1, h2⟩, h => ⟨h1, flat_app h2 h⟩
theorem inF_flat (t : Nat → ByteArray) : ∀ n, FlatF (inF t n)
  | 0 => ⟨rfl, trivial⟩
  | n + 1 => flat_app (inF_flat t n) ⟨rfl, rfl, trivial⟩
theorem inF_len (t : Nat → ByteArray) : ∀ n, (inF t n).len = 1 + 2 * n
  | 0 => rfl
  | n + 1 => by rw [inF, Fo.app_len, inF_len t n]; show _ + 2 = _; omega
theorem word_gd (x : Int) : (∃ m, Gd (wordS x) m) ∧ (∀ j, j < (wordS x).size → bt (wordS x) j ≠ 10) := gd_word (lowN x 10) (word_low x)
theorem lf_app {a b : ByteArray} (ha : ∀ j, j < a.size → bt a j ≠ 10) (hb : ∀ j, j < b.size → bt b j ≠ 10) : ∀ j, j < (a ++ b).size → bt (a ++ b) j ≠ 10 := by
  intro j hj
  rw [size_app] at hj
  by_cases h : j < a.size
  · rw [bt_left h]; exact ha j h
  · rw [bt_right (by omega) hj]; exact hb _ (by omega)
theorem lf_one {c : UInt8} (hc : c.toNat ≠ 10) : ∀ j, j < (⟨#[c]⟩ : ByteArray).size → bt ⟨#[c]⟩ j ≠ 10 := by
  intro j hj
  have : (⟨#[c]⟩ : ByteArray).size = 1 := rfl
  obtain rfl : j = 0 := by omega
  have := bt_get (s := ⟨#[c]⟩) (k := 0) (by omega)
  rw [← this]
  show ((c.toNat : Nat) : Int) ≠ 10
  omega
theorem lf_none : ∀ j, j < (ByteArray.empty).size → bt ByteArray.empty j ≠ 10 := fun j hj => absurd hj (Nat.not_lt_zero j)
theorem good_leaf {k n : Int} {t : ByteArray} {rest : Fo} (hk : 1 ≤ k ∧ k ≤ 7) (ht : ∃ m, Gd t m) (hlf : ∀ j, j < t.size → bt t j ≠ 10) (hn : 0 ≤ n ∧ n ≤ 10000) (hr : GoodF rest) : GoodF (.cons k t n .nil rest) :=
  ⟨ht, hlf, hk, fun _ => rfl, hn, trivial, hr⟩
theorem inF_good (t : Nat → ByteArray) (ht : ∀ i, (∃ m, Gd (t i) m) ∧ (∀ j, j < (t i).size → bt (t i) j ≠ 10)) : ∀ n, GoodF (inF t n)
  | 0 => good_leaf (by omega) ⟨0, .nil⟩ lf_none (by omega) trivial
  | n + 1 => by
    obtain ⟨⟨m, hm⟩, hl⟩ := ht n
    exact good_app (inF_good t ht n) (good_leaf (by omega) ⟨_, hm.app (gd_one 44 (by decide))⟩ (lf_app hl (lf_one (by decide))) (by omega) (good_leaf (by omega) ⟨0, .nil⟩ lf_none (by omega) trivial))
theorem inF_cost (t : Nat → ByteArray) (ht : ∀ i, (t i).size ≤ 3) : ∀ n, costF (inF t n) ≤ 1 + 6 * n
  | 0 => by show 0 + 1 + 0 + 0 ≤ _; omega
  | n + 1 => by
    have h1 := ht n
    have h2 := inF_cost t ht n
    have h3 : (⟨#[44]⟩ : ByteArray).size = 1 := rfl
    have h4 : ByteArray.empty.size = 0 := rfl
    rw [inF, cost_app]; simp only [costF, size_app]; omega
theorem inF_nst (t : Nat → ByteArray) : ∀ n, nstF (inF t n) = 0
  | 0 => by show nstF (.cons 3 ByteArray.empty 0 .nil .nil) = 0; decide
  | n + 1 => by
    have e0 : (clampN 0).toNat = 0 := by decide
    rw [inF, nst_app, inF_nst t n]; simp only [nstF]; omega
theorem flat_short : ∀ {F : Fo}, FlatF F → ShortF F
  | .nil, _ => trivial
  | .cons k t n kids r, ⟨h1, h2⟩ => by subst h1; exact ⟨by show 0 ≤ _; omega, trivial, flat_short h2⟩
theorem one_size (t : Nat → ByteArray) (ht : ∀ i, (t i).size ≤ 3) : ∀ n, (oneS t n).size ≤ 5 * n
  | 0 => Nat.le_refl _
  | n + 1 => by
    have h1 := ht n
    have h2 := one_size t ht n
    have h3 : (⟨#[44, 32]⟩ : ByteArray).size = 2 := rfl
    rw [oneS, size_app, size_app]; omega
theorem more_size (t : Nat → ByteArray) (k : Nat) (ht : ∀ i, (t i).size ≤ 3) : ∀ n, (moreS t k n).size ≤ (k + 5) * n
  | 0 => Nat.le_refl _
  | n + 1 => by
    have h1 := ht n
    have h2 := more_size t k ht n
    have h3 : (⟨#[10]⟩ : ByteArray).size = 1 := rfl
    have h4 : (⟨#[44]⟩ : ByteArray).size = 1 := rfl
    rw [moreS, size_app, size_app, size_app, size_app, manyS_size, Nat.mul_succ]; omega
end Bk
theorem flat_list {w : World} {ok : Nat → Prop} : ∀ {F : Fo}, Bk.FlatF F → LList w ok F (Bk.flatV F)
  | .nil, _ => rfl
  | .cons k t n kids r, ⟨h1, h2⟩ => by subst h1; exact ⟨none, 0, _, rfl, .inl rfl, flat_list h2⟩
/-- A row of leaves that a call made, as a slice. -/
theorem own_flat {w : World} {B : Nat} {v : Value} {F : Fo} (h : w.ownsRow B 26 4 v F.len (Bk.flatV F)) (hF : Bk.FlatF F) : ∃ a cp, v = .slice a F.len cp ∧ SlAt w (fun _ => True) a F := by
  rcases h.2 with ⟨hv, h0⟩ | ⟨g, cap, cur, hv, hg, hgb, hn, hm, hs, ht⟩
  · exact ⟨none, 0, by rw [hv, h0], .inl h0⟩
  · have hl := (flat_list (w := w) (ok := fun _ => True) hF).len
    refine ⟨some ⟨g, 0, none⟩, cap, hv, .inr ⟨g, 0, rfl, blk_lt hgb, trivial, ?_⟩⟩
    refine LList.row (b := g) (off := 0) (flat_list hF) (fun j hj => ?_)
    rw [Nat.zero_add]
    have h1 : w.cell? ⟨g, j, none⟩ = cur[j]? := by simp [World.cell?, hgb]
    have h2 : (cur.toList.take (F.len * 4))[j]? = (Bk.flatV F)[j]? := by rw [ht]
    rw [List.getElem?_take_of_lt (by omega), Array.getElem?_toList] at h2
    rw [h1, h2]
/-- Append of some layouts to a row of the call's own. -/
theorem app_lv {ops : Array Oper} {rest : List Oper} {o : Oper} {a : Act} {Q : Exit → Act → World → Prop} {w0 wr wx : World} (hgd : o.guard = none) (s x : Operand)
    (ho : o.op = .call { callee := .builtin .append, args := #[s, x], argTypes := #[24, 24] }) (v : Value) (n : Nat) (xs : List Value) (m : Nat) (news : List Value) (hs : a.eval s = v)
    (hx : a.eval x = .slice (some ⟨wr.heap.size, 0, none⟩) m m) (hown : Hid (wr.ownsRow w0.heap.size 26 4 v n xs)) (hl : news.length = m * 4) (h1 : ∀ u ∈ news, u.oneCell' = true) (hm : 0 < m)
    (hlen : n + m ≤ 1000000) (hwx : wx = wr.alloc (.cells news.toArray 26)) (hb : Hid (Below w0.heap.size w0 wr))
    (h : ∀ v' w', Hid (w'.ownsRow w0.heap.size 26 4 v' (n + m) (xs ++ news)) → Hid (Below w0.heap.size w0 w') → wpList Try.prog ops Q rest (a.put o.dst v') w') :
    wpList Try.prog ops Q (o :: rest) a wx := by
  subst hwx
  obtain ⟨i0, hi, hz0, hz1, hz2⟩ := info_parts Try.info26
  have hB : w0.heap.size ≤ wr.heap.size := hb.out.size
  refine wpList_append_lies _ hgd s x 24 ho w0.heap.size 26 i0 _ 4 56 Try.underlying24 hi hz0 hz1 hz2 rfl (by decide) v n xs hs (World.ownsRow.alloc hown.out _) ⟨wr.heap.size, 0, none⟩ m m news hx hl ?_ h1 hm ?_ ?_ ?_ (wr.heap.size + 1) (by simp) ?_
  · exact fun j u hu => World.news_of_block (heap_alloc_new wr (.cells news.toArray 26)) j u (by simpa using hu)
  · unfold maxLen; omega
  · omega
  · simp; omega
  · intro g cap w' hown' hgrow hg hlt
    exact h _ w' (Lib.hid hown') (Lib.hid ((hb.out.alloc hB _).grown hgrow (by simp; omega) (fun k hk => (World.ownsRow.lt hown.out k hk).1)))
/-- What a walk asks of the list. -/
theorem words_lays (t : Nat → ByteArray) (ht : ∀ i, ((∃ m, Bk.Gd (t i) m) ∧ (∀ j, j < (t i).size → bt (t i) j ≠ 10)) ∧ (t i).size ≤ 3) (n x step : Nat) (hn : n ≤ 10) (hx : x ≤ 100) (hs : step ≤ 100) : Lays 6 x ⟨#[]⟩ (Bk.wordsF t n step) := by
  have h1 := Bk.inF_good t (fun i => (ht i).1) n
  have h2 := Bk.inF_cost t (fun i => (ht i).2) n
  have h3 := Bk.inF_nst t n
  have h4 := Bk.inF_len t n
  have hz := (ht n).2
  obtain ⟨⟨hg, hlf⟩, _⟩ := ht n
  have e0 : (Bk.clampN 0).toNat = 0 := by decide
  have ex : (Bk.clampN (x : Int)).toNat = x := by rw [clamp_is (by omega) (by omega)]; omega
  have es : (Bk.clampN (step : Int)).toNat = step := by rw [clamp_is (by omega) (by omega)]; omega
  have e1 : ByteArray.empty.size = 0 := rfl
  have e2 : (⟨#[]⟩ : ByteArray).size = 0 := rfl
  have e3 : (⟨#[91]⟩ : ByteArray).size = 1 := rfl
  have e4 : (⟨#[93]⟩ : ByteArray).size = 1 := rfl
  have e5 : (⟨#[107, 58, 32]⟩ : ByteArray).size = 3 := rfl
  have hI : Bk.GoodF (Bk.inS t n) := Bk.good_app h1 (Bk.good_leaf (by omega) hg hlf (by omega) trivial)
  have hIs : Bk.ShortF (Bk.inS t n) := Bk.short_app (Bk.flat_short (Bk.inF_flat t n)) ⟨by show 0 ≤ _; omega, trivial, trivial⟩
  have hIl : (Bk.inS t n).len = 2 + 2 * n := by rw [Bk.inS, Fo.app_len, h4]; show _ + 1 = _; omega
  have hIc : Bk.costF (Bk.inS t n) ≤ 5 + 6 * n := by rw [Bk.inS, Bk.cost_app]; simp only [Bk.costF]; omega
  have hIn : Bk.nstF (Bk.inS t n) = 0 := by rw [Bk.inS, Bk.nst_app, h3]; simp only [Bk.nstF]; omega
  have hlk : ∀ j, j < (⟨#[107, 58, 32]⟩ : ByteArray).size → bt ⟨#[107, 58, 32]⟩ j ≠ 10 := by
    intro j hj
    rcases (by omega : j = 0 ∨ j = 1 ∨ j = 2) with rfl | rfl | rfl <;> decide
  refine ⟨⟨⟨0, .nil⟩, fun j hj => absurd hj (Nat.not_lt_zero j), by decide, fun h => absurd h (by decide), ⟨by omega, by omega⟩, ?_, trivial⟩, ?_, by show 2 ≤ _; omega, ?_, ?_⟩
  · refine Bk.good_leaf (by omega) ⟨3, Bk.gd_of [107, 58, 32] (by decide)⟩ hlk (by omega) ⟨⟨0, .nil⟩, Bk.lf_none, by decide, fun h => absurd h (by decide), by decide, ?_, trivial⟩
    refine Bk.good_leaf (by omega) ⟨1, Bk.gd_one 91 (by decide)⟩ (Bk.lf_one (by decide)) (by omega) ⟨⟨0, .nil⟩, Bk.lf_none, by decide, fun h => absurd h (by decide), ⟨by omega, by omega⟩, hI, ?_⟩
    exact Bk.good_leaf (by omega) ⟨0, .nil⟩ Bk.lf_none (by omega) (Bk.good_leaf (by omega) ⟨1, Bk.gd_one 93 (by decide)⟩ (Bk.lf_one (by decide)) (by omega) trivial)
  · exact ⟨by show 0 ≤ _; omega, trivial, by show 4 ≤ _; omega, ⟨by show 0 ≤ _; omega, trivial, by omega, hIs, by show 0 ≤ _; omega, trivial, by show 0 ≤ _; omega, trivial, trivial⟩, trivial⟩
  · unfold Bk.wordsF Bk.groupF; simp only [Bk.nstF]; omega
  · unfold Bk.wordsF Bk.groupF; simp only [Bk.costF]; omega
/-- The group's row. -/
theorem group_at {w : World} {t : Nat → ByteArray} {n : Nat} {step : Int} {a : Option Addr} {L cp : Nat} (hL : (Bk.inS t n).len = L) (h : SlAt w (fun _ => True) a (Bk.inS t n)) :
    SlAt (w.alloc (.cells #[.int .i64 1, .string ⟨#[91]⟩, .int .i64 0, .slice none 0 0, .int .i64 6, .string ⟨#[]⟩, .int .i64 step, .slice a L cp, .int .i64 3, .string ⟨#[]⟩, .int .i64 0, .slice none 0 0, .int .i64 1, .string ⟨#[93]⟩, .int .i64 0, .slice none 0 0] 26)) (fun _ => True) (some ⟨w.heap.size, 0, none⟩) (Bk.groupF t n step) := by
  have hb := heap_alloc_new w (.cells #[.int .i64 1, .string ⟨#[91]⟩, .int .i64 0, .slice none 0 0, .int .i64 6, .string ⟨#[]⟩, .int .i64 step, .slice a L cp, .int .i64 3, .string ⟨#[]⟩, .int .i64 0, .slice none 0 0, .int .i64 1, .string ⟨#[93]⟩, .int .i64 0, .slice none 0 0] 26)
  subst hL
  refine .inr ⟨w.heap.size, 0, rfl, by simp, trivial, ?_, ?_, ?_, ⟨none, 0, ?_, .inl rfl⟩, ?_, ?_, ?_, ⟨a, cp, ?_, h.below ((Below.refl _ _).alloc (Nat.le_refl _) _)⟩, ?_, ?_, ?_, ⟨none, 0, ?_, .inl rfl⟩, ?_, ?_, ?_, ⟨none, 0, ?_, .inl rfl⟩, trivial⟩
  all_goals (rw [Lib.cell_of_heap hb]; rfl)
theorem words_at {w : World} {t : Nat → ByteArray} {n : Nat} {step : Int} {a : Option Addr} {cp : Nat} (h : SlAt w (fun _ => True) a (Bk.groupF t n step)) :
    SlAt (w.alloc (.cells #[.int .i64 1, .string ⟨#[107, 58, 32]⟩, .int .i64 0, .slice none 0 0, .int .i64 7, .string ⟨#[]⟩, .int .i64 0, .slice a 4 cp] 26)) (fun _ => True) (some ⟨w.heap.size, 0, none⟩) (Bk.wordsF t n step) := by
  have hb := heap_alloc_new w (.cells #[.int .i64 1, .string ⟨#[107, 58, 32]⟩, .int .i64 0, .slice none 0 0, .int .i64 7, .string ⟨#[]⟩, .int .i64 0, .slice a 4 cp] 26)
  refine .inr ⟨w.heap.size, 0, rfl, by simp, trivial, ?_, ?_, ?_, ⟨none, 0, ?_, .inl rfl⟩, ?_, ?_, ?_, ⟨a, cp, ?_, h.below ((Below.refl _ _).alloc (Nat.le_refl _) _)⟩, trivial⟩
  all_goals (rw [Lib.cell_of_heap hb]; rfl)
end Go.Proofs.Ythkpoiideiimaaa
