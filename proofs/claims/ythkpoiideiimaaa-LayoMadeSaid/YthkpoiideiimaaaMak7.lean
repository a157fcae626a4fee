/- Layouts of numbers: what they are: plain; the maker's lay: contract. -/
import Derived.Test.YthkpoiideiimaaaMak5
import Derived.Test.YthkpoiideiimaaaMak6
import Derived.Test.YthkpoiideiimaaaTel4
namespace Go.Proofs.Ythkpoiideiimaaa
open Go Go.RowKit Go.PlainAid
set_option linter.unusedVariables false
open Bk (Fo)
namespace Bk
theorem gd_word : ∀ i, i < 10 → (∃ m, Gd (wdAt i) m) ∧ ∀ j, j < (wdAt i).size → bt (wdAt i) j ≠ 10 := by
  have h3 : ∀ a b c : UInt8, a.toNat < 128 → b.toNat < 128 → c.toNat < 128 → Gd ⟨#[a, b, c]⟩ 3 := fun a b c ha hb hc => by
    have e : (ByteArray.empty ++ ⟨#[a]⟩ ++ ⟨#[b]⟩ ++ ⟨#[c]⟩ : ByteArray) = ⟨#[a, b, c]⟩ := by apply ByteArray.ext; simp [ByteArray.data_append]
    rw [← e]
    exact ((Gd.nil.asc a ha).asc b hb).asc c hc
  have h2 : ∀ a b : UInt8, a.toNat < 128 → b.toNat < 128 → Gd ⟨#[a, b]⟩ 2 := fun a b ha hb => by
    have e : (ByteArray.empty ++ ⟨#[a]⟩ ++ ⟨#[b]⟩ : ByteArray) = ⟨#[a, b]⟩ := by apply ByteArray.ext; simp [ByteArray.data_append]
    rw [← e]
    exact (Gd.nil.asc a ha).asc b hb
  intro i hi
  refine ⟨?_, ?_⟩
  · rcases (by omega : i = 0 ∨ i = 1 ∨ i = 2 ∨ i = 3 ∨ i = 4 ∨ i = 5 ∨ i = 6 ∨ i = 7 ∨ i = 8 ∨ i = 9) with rfl | rfl | rfl | rfl | rfl | rfl | rfl | rfl | rfl | rfl
    · exact ⟨1, gd_one 97 (by decide)⟩
    · exact ⟨2, h2 98 99 (by decide) (by decide)⟩
    · exact ⟨3, h3 100 45 101 (by decide) (by decide) (by decide)⟩
    · exact ⟨3, h3 102 95 103 (by decide) (by decide) (by decide)⟩
    · exact ⟨2, h2 104 49 (by decide) (by decide)⟩
    · exact ⟨3, h3 120 121 122 (by decide) (by decide) (by decide)⟩
    · exact ⟨1, by have := Gd.nil.e; rw [ByteArray.empty_append] at this; exact this⟩
    · exact ⟨3, h3 107 35 108 (by decide) (by decide) (by decide)⟩
    · exact ⟨3, h3 109 58 110 (by decide) (by decide) (by decide)⟩
    · exact ⟨3, h3 111 46 112 (by decide) (by decide) (by decide)⟩
  · intro j hj
    have hz := (w10_at i hi).2.1
    have : ∀ i : Fin 10, ∀ j : Fin 3, (j : Nat) < (wdAt i).size → bt (wdAt i) j ≠ 10 := by decide +kernel
    exact this ⟨i, hi⟩ ⟨j, by omega⟩ hj
theorem word_low (x : Int) : lowN x 10 < 10 := by have := lowN_lt (x := x) (n := 10) (by omega); omega
theorem clamp_nat {n : Nat} (h : n ≤ 10000) : clampN n = n := by unfold clampN; omega
/-- What a layout of numbers is like. -/
structure GoodN (x : Nd) (p q : Nat) : Prop where
  good : GoodF x.fo
  short : ShortF x.kids
  len : x.kids.len ≤ 4
  cost : costF x.fo ≤ 4 + 8 * (q - p)
  nst : nstF x.fo ≤ 4 * (q - p)
  le : p ≤ q
theorem leaf_good (z : List Int) (len : Nat) (hard : Bool) (c : Int) (p q : Nat) (hp : p ≤ q) (hq : q ≤ len) : GoodN (leafS z len hard c q).1 p (leafS z len hard c q).2 := by
  have hn0 : clampN 0 = 0 := by decide
  have he : ∃ m, Gd ByteArray.empty m := ⟨0, .nil⟩
  have hel : ∀ j, j < ByteArray.empty.size → bt ByteArray.empty j ≠ 10 := fun j hj => absurd hj (Nat.not_lt_zero j)
  have hez : ByteArray.empty.size = 0 := rfl
  have mkE : ∀ k : Int, 1 ≤ k ∧ k ≤ 4 → GoodN ⟨k, ByteArray.empty, 0, .nil⟩ p q := fun k hk =>
    ⟨⟨he, hel, by show 1 ≤ k ∧ k ≤ 7; omega, fun _ => rfl, ⟨Int.le_refl 0, by show (0 : Int) ≤ 10000; omega⟩, trivial, trivial⟩, trivial, Nat.zero_le _, by simp only [Nd.fo, costF, hez]; omega, by simp only [Nd.fo, nstF, hn0]; omega, hp⟩
  unfold leafS
  split
  · have hl := pick_le (z := z) (n := 10) hq
    have hw := gd_word _ (word_low ((pickS z len 10 q).1 : Nat))
    have hz := (wordS_is ((pickS z len 10 q).1 : Nat)).1
    exact ⟨⟨hw.1, hw.2, by show 1 ≤ (1 : Int) ∧ (1 : Int) ≤ 7; omega, fun _ => rfl, ⟨Int.le_refl 0, by show (0 : Int) ≤ 10000; omega⟩, trivial, trivial⟩, trivial, Nat.zero_le _, by simp only [Nd.fo, costF]; omega, by simp only [Nd.fo, nstF, hn0]; omega, by omega⟩
  split
  · exact mkE 2 (by omega)
  split
  · exact mkE 3 (by omega)
  split
  · exact mkE 4 (by omega)
  · exact mkE 1 (by omega)
theorem short_app : ∀ {F G : Fo}, ShortF F → ShortF G → ShortF (F.app G)
  | .nil, G, _, h => h
  | .cons k t n kids r, G, ⟨h1, h2, h3⟩, h => ⟨h1, h2, short_app h3 h⟩
theorem nst_app : ∀ F G : Fo, nstF (F.app G) = nstF F + nstF G
  | .nil, G => by simp [Fo.app, nstF]
  | .cons k t n kids r, G => by simp only [Fo.app, nstF, nst_app r G]; omega
structure GoodT (F : Fo) (c p q : Nat) : Prop where
  good : GoodF F
  short : ShortF F
  len : F.len = c
  cost : costF F ≤ 4 * c + 8 * (q - p)
  nst : nstF F ≤ 4 * (q - p)
  le : p ≤ q
theorem GoodT.put {F : Fo} {x : Nd} {c p q q2 : Nat} (h : GoodT F c p q) (hx : GoodN x q q2) : GoodT (F.app x.fo) (c + 1) p q2 := by
  have h1 := h.le
  have h2 := hx.le
  have h3 := hx.len
  refine ⟨good_app h.good hx.good, short_app h.short ⟨by omega, hx.short, trivial⟩, by rw [Fo.app_len, h.len]; rfl, ?_, ?_, by omega⟩
  · rw [cost_app]; have := h.cost; have := hx.cost; omega
  · rw [nst_app]; have := h.nst; have := hx.nst; omega
theorem times_good (g : Nat → Nd × Nat) (len : Nat) (hg : ∀ q, q ≤ len → GoodN (g q).1 q (g q).2) (hl : ∀ q, q ≤ len → (g q).2 ≤ len) : ∀ c p, p ≤ len → GoodT (timesS g c p).1 c p (timesS g c p).2
  | 0, p, h => ⟨trivial, trivial, rfl, by simp [timesS, costF], by simp [timesS, nstF], Nat.le_refl _⟩
  | c + 1, p, h => (times_good g len hg hl c p h).put (hg _ (times_le g len hl c p h))
theorem lay_good (z : List Int) (len : Nat) (hard : Bool) : ∀ f p, p ≤ len → GoodN (layS z len hard f p).1 p (layS z len hard f p).2
  | 0, p, h => by
    have hp := pick_le (z := z) (n := 10) h
    rw [layS]; exact leaf_good _ _ _ _ _ _ hp.1 hp.2.1
  | f + 1, p, h => by
    have hp := pick_le (z := z) (n := 10) h
    rw [layS]
    split
    · rename_i h5
      have hpc : (pickS z len 10 p).2 = p + 1 := by
        unfold pickS at h5 ⊢
        split
        · rfl
        · rename_i h6; rw [if_neg h6] at h5; exact absurd h5 (by show ¬ (5 < ((0 : Nat) : Int)); omega)
      obtain ⟨c, hc⟩ : ∃ c : Int, c = (pickS z len 10 p).1 := ⟨_, rfl⟩
      have hc10 := pick_lt (z := z) (len := len) (n := 10) (p := p) (by omega)
      rw [← hc] at h5 hc10 ⊢
      rw [hpc] at hp ⊢
      have hn1 := num_le z len c (p + 1) hp.2.1
      have hn0 : p + 1 ≤ (numS z len c (p + 1)).2 := by
        unfold numS; split
        · exact (pick_le hp.2.1).1
        · exact Nat.le_refl _
      have hnn : (numS z len c (p + 1)).1 < 5 ∧ (c ≠ 7 → (numS z len c (p + 1)).1 = 0) := by
        unfold numS; split
        · have := pick_lt (z := z) (len := len) (n := 5) (p := p + 1) (by omega)
          exact ⟨by omega, fun h => absurd ‹c = 7› h⟩
        · exact ⟨by omega, fun _ => rfl⟩
      obtain ⟨q2, hq2⟩ : ∃ q2, q2 = (numS z len c (p + 1)).2 := ⟨_, rfl⟩
      obtain ⟨nn, hnn2⟩ : ∃ nn, nn = (numS z len c (p + 1)).1 := ⟨_, rfl⟩
      rw [← hq2] at hn1 hn0 ⊢
      rw [← hnn2] at hnn ⊢
      have hcn := pick_lt (z := z) (len := len) (n := 5) (p := q2) (by omega)
      have hcl := pick_le (z := z) (n := 5) hn1
      have hcz : 1 ≤ (pickS z len 5 q2).1 → q2 + 1 ≤ (pickS z len 5 q2).2 := by
        unfold pickS; split
        · intro _; exact Nat.le_refl _
        · intro h; exact absurd h (by show ¬ (1 ≤ 0); omega)
      obtain ⟨cn, hcn2⟩ : ∃ cn, cn = (pickS z len 5 q2).1 := ⟨_, rfl⟩
      obtain ⟨q3, hq3⟩ : ∃ q3, q3 = (pickS z len 5 q2).2 := ⟨_, rfl⟩
      rw [← hcn2] at hcn hcz ⊢
      rw [← hq3] at hcl hcz ⊢
      have hT := times_good (layS z len hard f) len (fun q hq => lay_good z len hard f q hq) (fun q hq => lay_le z len hard f q hq) cn q3 hcl.2.1
      obtain ⟨T, hTT⟩ : ∃ T, T = timesS (layS z len hard f) cn q3 := ⟨_, rfl⟩
      rw [← hTT] at hT ⊢
      have h1 := hT.le
      have h2 := hT.len
      have h3 := hT.cost
      have h4 := hT.nst
      have hez : ByteArray.empty.size = 0 := rfl
      have hclamp : clampN (nn : Nat) = (nn : Nat) := clamp_nat (by omega)
      have hk : 5 ≤ kindS c ∧ kindS c ≤ 7 := by unfold kindS; split <;> (try split) <;> omega
      have hcn4 : cn ≤ 4 := by omega
      have hcz2 : cn = 0 ∨ q2 + 1 ≤ q3 := by omega
      refine ⟨⟨⟨0, .nil⟩, fun j hj => absurd hj (Nat.not_lt_zero j), ?_, ?_, ?_, hT.good, trivial⟩, hT.short, ?_, ?_, ?_, ?_⟩
      · show 1 ≤ kindS c ∧ kindS c ≤ 7; omega
      · intro h; exfalso; have h : kindS c ≤ 4 := h; omega
      · show 0 ≤ ((nn : Nat) : Int) ∧ ((nn : Nat) : Int) ≤ 10000; omega
      · show T.1.len ≤ 4; omega
      · show ByteArray.empty.size + 1 + costF T.1 + 0 ≤ 4 + 8 * (T.2 - p); omega
      · show (clampN (nn : Nat)).toNat + nstF T.1 + 0 ≤ 4 * (T.2 - p); rw [hclamp]; omega
      · show p ≤ T.2; omega
    · exact leaf_good _ _ _ _ _ _ hp.1 hp.2.1
end Bk
theorem lay_leafC (mb : Nat) (a : Option Addr) (len cap : Nat) (z : List Int) (p : Nat) (hard : Bool) (d : Int) (w : World) (h : Mk mb a len cap z p w) (hp : p ≤ len) (hl : len ≤ 1000) (h5 : ((Bk.pickS z len 10 p).1 : Int) ≤ 5) :
    Calls Try.prog 21 #[.pointer (some ⟨mb, 0, none⟩), .int .i64 d, .bool hard] w (LayPost mb a len cap z (Bk.leafS z len hard ((Bk.pickS z len 10 p).1 : Nat) (Bk.pickS z len 10 p).2) w) := by
  obtain ⟨c, hc⟩ : ∃ c : Int, c = (Bk.pickS z len 10 p).1 := ⟨_, rfl⟩
  rw [← hc] at h5 ⊢
  by_cases h3 : c < 3
  · exact lay_text mb a len cap z p _ hard d c w h hp hl hc rfl (by omega) h3
  · rcases (by omega : c = 3 ∨ c = 4 ∨ c = 5) with rfl | rfl | rfl
    · exact lay_line mb a len cap z p _ hard d 3 w h hp hl hc rfl
    · exact lay_soft mb a len cap z p _ hard d 4 w h hp hl hc rfl
    · cases hard with
      | true => exact lay_hard mb a len cap z p _ true d 5 w h hp hl hc rfl rfl
      | false => exact lay_empty mb a len cap z p _ false d 5 w h hp hl hc rfl rfl
theorem lay_all : ∀ f, LayC f
  | 0 => by
    intro mb a len cap z p hard d w h hp hl hd0 hd
    have hl10 := Bk.pick_lt (z := z) (len := len) (n := 10) (p := p) (by omega)
    rw [Bk.layS]
    by_cases h5 : 5 < ((Bk.pickS z len 10 p).1 : Int)
    · rw [if_pos h5]
      exact lay_over mb a len cap z p _ hard d _ w h hp hl rfl rfl h5 (by omega)
    · rw [if_neg h5]
      exact lay_leafC mb a len cap z p hard d w h hp hl (by omega)
  | f + 1 => by
    intro mb a len cap z p hard d w h hp hl hd0 hd
    have hl10 := Bk.pick_lt (z := z) (len := len) (n := 10) (p := p) (by omega)
    by_cases h5 : 5 < ((Bk.pickS z len 10 p).1 : Int)
    · rcases (by omega : ((Bk.pickS z len 10 p).1 : Int) = 6 ∨ ((Bk.pickS z len 10 p).1 : Int) = 7 ∨ ((Bk.pickS z len 10 p).1 : Int) = 8 ∨ ((Bk.pickS z len 10 p).1 : Int) = 9) with e | e | e | e
      · exact lay_cat f (lay_all f) mb a len cap z p hard d w h hp hl hd0 (by omega) e.symm
      · exact lay_nest f (lay_all f) mb a len cap z p hard d w h hp hl hd0 (by omega) e.symm
      · exact lay_grp8 f (lay_all f) mb a len cap z p hard d w h hp hl hd0 (by omega) e.symm
      · exact lay_grp9 f (lay_all f) mb a len cap z p hard d w h hp hl hd0 (by omega) e.symm
    · have hx : Bk.layS z len hard (f + 1) p = Bk.leafS z len hard ((Bk.pickS z len 10 p).1 : Nat) (Bk.pickS z len 10 p).2 := by rw [Bk.layS, if_neg h5]
      rw [hx]
      exact lay_leafC mb a len cap z p hard d w h hp hl (by omega)
end Go.Proofs.Ythkpoiideiimaaa
