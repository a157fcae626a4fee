/- Words on rows, read as one plain scalar. Plain. -/
import Derived.Test.YtmmhpejnfkienaaEnds
namespace Go.Proofs.Ytmmhpejnfkienaa
open Go Go.RowKit Go.PlainAid
set_option linter.unusedVariables false
namespace Bk
theorem ba_ext {a b : ByteArray} (h : a.size = b.size) (h1 : ∀ j, j < a.size → bt a j = bt b j) : a = b := by
  apply ByteArray.ext
  apply Array.ext
  · exact h
  · intro i h2 h3
    have e1 := get_bt a i h2
    have e2 := get_bt b i h3
    have e3 := h1 i h2
    rw [← e1, ← e2] at e3
    exact UInt8.toNat_inj.1 (by exact Int.ofNat.inj e3)
/-- What a word must be, to stand in a plain scalar. -/
def okWB (w : ByteArray) : Bool := decide (0 < w.size) && !indB (bt w 0) && bt w 0 != 46 && bt w 0 != 35 && bt w 0 != 45 &&
  (List.range w.size).all fun j => bt w j != 10 && !whiteB (bt w j) && !flowB (bt w j) && (bt w j != 58 || decide (j + 1 < w.size))
structure OkW (w : ByteArray) : Prop where
  pos : 0 < w.size
  ind : indB (bt w 0) = false
  n46 : bt w 0 ≠ 46
  n35 : bt w 0 ≠ 35
  n45 : bt w 0 ≠ 45
  lf : ∀ j, j < w.size → bt w j ≠ 10
  wh : ∀ j, j < w.size → whiteB (bt w j) = false
  fl : ∀ j, j < w.size → flowB (bt w j) = false
  col : ∀ j, j < w.size → bt w j = 58 → j + 1 < w.size
theorem okW_of {w : ByteArray} (h : okWB w = true) : OkW w := by
  unfold okWB at h
  simp only [Bool.and_eq_true, decide_eq_true_eq, List.all_eq_true, List.mem_range, Bool.or_eq_true, bne_iff_ne, Bool.not_eq_true'] at h
  obtain ⟨⟨⟨⟨⟨h1, h2⟩, h3⟩, h4⟩, h5⟩, h6⟩ := h
  exact ⟨h1, h2, h3, h4, h5, fun j hj => (h6 j hj).1.1.1, fun j hj => (h6 j hj).1.1.2, fun j hj => (h6 j hj).1.2, fun j hj h => by
    rcases (h6 j hj).2 with h7 | h7
    · exact absurd h h7
    · exact h7⟩
theorem okW_all : ∀ i, i < 10 → okWB (wdAt i) = true := by decide +kernel
theorem okW_word (x : Int) : OkW (wordS x) := okW_of (okW_all (lowN x 10) (by have := lowN_lt (x := x) (n := 10) (by omega); omega))
/-- A word stands at a place, and a row's end behind it. -/
structure WordIs (T : ByteArray) (q : Nat) (w : ByteArray) : Prop where
  ok : OkW w
  le : q + w.size ≤ T.size
  at' : ∀ j, j < w.size → bt T (q + j) = bt w j
  fin : q + w.size = T.size ∨ bt T (q + w.size) = 10
theorem WordIs.toN {T : ByteArray} {q : Nat} {w : ByteArray} (h : WordIs T q w) {k : Nat} (hk : k ≤ q) (hk' : ∀ j, k ≤ j → j < q → bt T j ≠ 10) : toN T k = q + w.size :=
  toN_eq (by have := h.ok.pos; omega) h.le (fun j a b => by
    by_cases e : j < q
    · exact hk' j a e
    · have := h.at' (j - q) (by omega)
      rw [show q + (j - q) = j from by omega] at this
      rw [this]; exact h.ok.lf _ (by omega)) (fun a => by rcases h.fin with e | e; omega; exact e)
theorem WordIs.endP {T : ByteArray} {q : Nat} {w : ByteArray} (h : WordIs T q w) (fl : Bool) {j : Nat} (hj : j < w.size) : Bk.endP T fl (q + j) = false := by
  unfold Bk.endP
  rw [h.at' j hj]
  by_cases h35 : bt w j = 35
  · rw [if_pos h35]
    have hj0 : 0 < j := by
      rcases Nat.eq_zero_or_pos j with e | e
      · subst e; exact absurd h35 h.ok.n35
      · exact e
    have := h.at' (j - 1) (by omega)
    rw [show q + j - 1 = q + (j - 1) from by omega, this, h.ok.wh (j - 1) (by omega), Bool.and_false]
  · rw [if_neg h35]
    by_cases h58 : bt w j = 58
    · rw [if_pos h58]
      have hl := h.ok.col j hj h58
      have hle := h.le
      have hb := h.at' (j + 1) hl
      have he := @ends_in T (q + j + 1) (by omega)
      rw [show q + j + 1 = q + (j + 1) from by omega, hb, h.ok.wh (j + 1) hl] at he
      have h10 := h.ok.lf (j + 1) hl
      have he2 : endsB T (((q + j : Nat) : Int) + 1) = false := by
        have : (((q + j : Nat) : Int) + 1) = ((q + (j + 1) : Nat) : Int) := by omega
        rw [this, he]; simpa using h10
      unfold stopsB
      rw [he2, show q + j + 1 = q + (j + 1) from by omega, hb, h.ok.fl (j + 1) hl, Bool.and_false]; rfl
    · rw [if_neg h58, h.ok.fl j hj, Bool.and_false]
theorem WordIs.part {T : ByteArray} {q : Nat} {w : ByteArray} (h : WordIs T q w) (fl : Bool) : partN T q fl = q + w.size := by
  have hp := h.ok.pos
  have hle := h.le
  have ht := h.toN (Nat.le_refl q) (fun j a b => by omega)
  unfold partN
  rw [if_neg (by omega)]
  have hE : partE T q fl = q + w.size := by
    refine partE_eq (by omega) (by omega) (fun j a b => ?_) (fun hlt => by omega)
    have := h.endP fl (j := j - q) (by omega)
    rw [show q + (j - q) = j from by omega] at this
    exact this
  rw [hE]
  refine trimN_eq (Nat.le_refl _) (by omega) (fun j a b => by omega) (fun _ => ?_)
  have := h.at' (w.size - 1) (by omega)
  rw [show q + (w.size - 1) = q + w.size - 1 from by omega] at this
  rw [this]; exact h.ok.wh _ (by omega)
theorem WordIs.ext {T : ByteArray} {q : Nat} {w : ByteArray} (h : WordIs T q w) : T.extract q (q + w.size) = w := by
  have hz := size_ext T q (q + w.size) h.le
  refine ba_ext (by omega) (fun j hj => ?_)
  rw [bt_ext h.le (by omega)]
  exact h.at' j (by omega)
/-- A row behind a place: a line feed, blank rows, blanks, a word. -/
structure RowIs (T : ByteArray) (p g c : Nat) (w : ByteArray) : Prop where
  lf : bt T p = 10
  gap : ∀ j, j < g → bt T (p + 1 + j) = 10
  bl : ∀ j, j < c → bt T (p + 1 + g + j) = 32
  wd : WordIs T (p + 1 + g + c) w
theorem RowIs.toNp {T : ByteArray} {p g c : Nat} {w : ByteArray} (h : RowIs T p g c w) : toN T p = p :=
  toN_eq (Nat.le_refl _) (by have := h.wd.le; omega) (fun j a b => by omega) (fun _ => h.lf)
theorem RowIs.kind1 {T : ByteArray} {p g c : Nat} {w : ByteArray} (h : RowIs T p g c w) {j : Nat} (hj : j < g) : kindN T (p + 1 + j) = 1 ∧ toN T (p + 1 + j) = p + 1 + j := by
  have hle := h.wd.le
  have hb := h.gap j hj
  have hprev : bt T (p + 1 + j - 1) = 10 := by
    rcases Nat.eq_zero_or_pos j with e | e
    · subst e; rw [show p + 1 + 0 - 1 = p from by omega]; exact h.lf
    · have := h.gap (j - 1) (by omega)
      rw [show p + 1 + (j - 1) = p + 1 + j - 1 from by omega] at this; exact this
  have hf : fromN T (p + 1 + j) = p + 1 + j := fromN_eq (Nat.le_refl _) (fun i a b => by omega) (fun _ => hprev)
  have ht : toN T (p + 1 + j) = p + 1 + j := toN_eq (Nat.le_refl _) (by omega) (fun i a b => by omega) (fun _ => hb)
  have hm : ∀ c : Int, c ≠ 10 → markB T (p + 1 + j) c = false := by
    intro c hc
    unfold markB dash3
    rw [hb]
    have : ((10 : Int) == c) = false := by simpa using fun e => hc e.symm
    rw [this]; simp
  refine ⟨?_, ht⟩
  unfold kindN
  rw [hf, ht, hm 45 (by decide), hm 46 (by decide), if_neg (by decide), if_neg (by decide), if_pos]
  exact firstN_eq (Nat.le_refl _) (Nat.le_refl _) (fun i a b => by omega) (fun a => by omega)
theorem RowIs.skip {T : ByteArray} {p g c : Nat} {w : ByteArray} (h : RowIs T p g c w) (hk : kindN T (p + g + 1) ≠ 1) : ∀ d j, j + d = g → ∀ f, T.size < f + p + j → skipN T f (p + j) j = (p + g, g)
  | 0, j, hj, f, hf => by
    obtain rfl : j = g := by omega
    exact skipN_no (fun h2 => hk h2.2)
  | d + 1, j, hj, f, hf => by
    have hle := h.wd.le
    obtain ⟨f', rfl⟩ : ∃ f', f = f' + 1 := ⟨f - 1, by omega⟩
    have h1 := h.kind1 (j := j) (by omega)
    rw [show p + 1 + j = p + j + 1 from by omega] at h1
    rw [skipN, if_pos ⟨by omega, h1.1⟩, h1.2, show p + j + 1 = p + (j + 1) from by omega]
    exact h.skip hk d (j + 1) (by omega) f' (by omega)
theorem RowIs.row {T : ByteArray} {p g c : Nat} {w : ByteArray} (h : RowIs T p g c w) :
    kindN T (p + g + 1) = 5 ∧ inN T (p + g + 1) = c ∧ firstN T (p + g + 1) T.size = p + 1 + g + c := by
  have hle := h.wd.le
  have hpos := h.wd.ok.pos
  obtain ⟨r, hr⟩ : ∃ r, r = p + g + 1 := ⟨_, rfl⟩
  rw [← hr]
  have hprev : bt T (r - 1) = 10 := by
    rcases Nat.eq_zero_or_pos g with e | e
    · rw [show r - 1 = p from by omega]; exact h.lf
    · have := h.gap (g - 1) (by omega)
      rw [show p + 1 + (g - 1) = r - 1 from by omega] at this; exact this
  have hbl : ∀ j, r ≤ j → j < r + c → bt T j = 32 := fun j a b => by
    have := h.bl (j - r) (by omega)
    rw [show p + 1 + g + (j - r) = j from by omega] at this; exact this
  have hw0 : bt T (r + c) = bt w 0 := by
    have := h.wd.at' 0 hpos
    rw [show p + 1 + g + c + 0 = r + c from by omega] at this; exact this
  have hwh : whiteB (bt w 0) = false := h.wd.ok.wh 0 hpos
  have hf : fromN T r = r := fromN_eq (Nat.le_refl _) (fun i a b => by omega) (fun _ => hprev)
  have ht : toN T r = p + 1 + g + c + w.size := h.wd.toN (by omega) (fun j a b => by rw [hbl j a (by omega)]; decide)
  have hw32 : bt w 0 ≠ 32 := fun e => by rw [e] at hwh; exact absurd hwh (by decide)
  have hfn : ∀ m, r + c ≤ m → firstN T r m = r + c := fun m hm =>
    firstN_eq (by omega) hm (fun j a b => by rw [hbl j a b]; decide) (fun a => by rw [hw0]; exact hwh)
  have hm : ∀ d : Int, d ≠ 32 → bt w 0 ≠ d → markB T r d = false := by
    intro d hd hd2
    have hb : bt T r ≠ d := by
      rcases Nat.eq_zero_or_pos c with e | e
      · have : bt T r = bt w 0 := by rw [← hw0, e]; rfl
        rw [this]; exact hd2
      · rw [hbl r (Nat.le_refl _) (by omega)]; exact fun e => hd e.symm
    unfold markB dash3
    have : (bt T r == d) = false := by simpa using hb
    rw [this]; simp
  refine ⟨?_, ?_, ?_⟩
  · unfold kindN
    rw [hf, ht, hm 45 (by decide) h.wd.ok.n45, hm 46 (by decide) h.wd.ok.n46, if_neg (by decide), if_neg (by decide), hfn _ (by omega), if_neg (by omega), hw0, if_neg h.wd.ok.n35]
  · unfold inN
    rw [hf, ht]
    refine runP_eq (by omega) (fun j hj => ?_) (fun _ => ?_)
    · rw [hbl (r + j) (by omega) (by omega)]; rfl
    · rw [hw0]; simpa using hw32
  · rw [hfn _ (by omega)]; omega
theorem RowIs.next {T : ByteArray} {p g c : Nat} {w : ByteArray} (h : RowIs T p g c w) (fl : Bool) : nextS T p 0 fl = (p + 1 + g + c, g, decide (0 < c)) := by
  have hle := h.wd.le
  have hpos := h.wd.ok.pos
  have hr := h.row
  have h1 : firstN T p T.size = p := firstN_eq (Nat.le_refl _) (by omega) (fun j a b => by omega) (fun _ => white_feed h.lf)
  have hs : skipN T (T.size + 1) p 0 = (p + g, g) := h.skip (by rw [hr.1]; decide) g 0 (by omega) (T.size + 1) (by omega)
  have hpt := h.wd.part fl
  unfold nextS
  rw [h1, h.toNp, if_neg (by omega), hs]
  show (if p + g < T.size ∧ kindN T (p + g + 1) = 5 then _ else _) = _
  rw [if_pos ⟨by omega, hr.1⟩]
  show (firstN T (p + g + 1) T.size, g, decide ((0 : Int) < inN T (p + g + 1)) && decide (firstN T (p + g + 1) T.size < partN T (firstN T (p + g + 1) T.size) fl)) = _
  rw [hr.2.2, hr.2.1, hpt, decide_eq_true (by omega : p + 1 + g + c < p + 1 + g + c + w.size), Bool.and_true]
  congr 2
  rw [Bool.eq_iff_iff]; simp
theorem next_end (T : ByteArray) (n : Int) (fl : Bool) : (nextS T T.size n fl).2.2 = false := by
  have h1 : toN T T.size = T.size := toN_eq (Nat.le_refl _) (Nat.le_refl _) (fun j a b => by omega) (fun h => by omega)
  have h2 := firstN_ge T T.size T.size
  unfold nextS
  rw [h1, if_neg (by omega), skipN_no (fun h => Nat.lt_irrefl _ h.1), if_neg (fun h => Nat.lt_irrefl _ h.1)]
theorem colon_none {T : ByteArray} {e : Nat} (he : e ≤ T.size) (h : e = T.size ∨ bt T e = 10) : colonB T e = false := by
  have h1 : firstN T e T.size = e := firstN_eq (Nat.le_refl _) he (fun j a b => by omega) (fun a => by
    rcases h with h | h
    · omega
    · exact white_feed h)
  unfold colonB
  rw [h1]
  rcases h with h | h
  · rw [decide_eq_false (by omega)]; rfl
  · rw [h]; simp
theorem WordIs.begins {T : ByteArray} {w : ByteArray} (h : WordIs T 0 w) (fl : Bool) : beginsB T 0 fl = true := by
  have hp := h.ok.pos
  have hle := h.le
  have hb := h.at' 0 hp
  rw [Nat.zero_add] at hb
  have hi := h.ok.ind
  have hs : signB (bt w 0) = false := by
    cases e : signB (bt w 0) with
    | false => rfl
    | true => rw [sign_ind e] at hi; cases hi
  have he := @ends_in T 0 (by omega)
  rw [hb, h.ok.wh 0 hp] at he
  have h10 := h.ok.lf 0 hp
  have he2 : endsB T ((0 : Nat) : Int) = false := by rw [he]; simpa using h10
  unfold beginsB
  rw [he2, hb, hs, hi]; rfl
end Bk
end Go.Proofs.Ytmmhpejnfkienaa
