/- Layouts told: what stands in one row, what grows, what breaks: plain laws. -/
import Derived.Test.YthkpoiideiimaaaLay1
namespace Go.Proofs.Ythkpoiideiimaaa
open Go Go.RowKit Go.PlainAid
set_option linter.unusedVariables false
namespace Bk
/-- What a node is told as, before those behind it. -/
def nodeF (W : Int) (k : Int) (t : ByteArray) (n : Int) (kids : Fo) (nest : Int) (flat : Bool) (st : St) : St :=
  if k = 1 then txtS st t nest
  else if k = 2 then (if flat then txtS st ⟨#[32]⟩ nest else feedS st)
  else if k = 3 then (if flat then st else feedS st)
  else if k = 4 then feedS st
  else if k = 5 then tellF W kids nest flat st
  else if k = 6 then tellF W kids (nest + clampN n) flat st
  else if k = 7 then tellF W kids nest (flat || fitsB W kids nest st) st
  else st
theorem tell_cons (W : Int) (k : Int) (t : ByteArray) (n : Int) (kids rest : Fo) (nest : Int) (flat : Bool) (st : St) :
    tellF W (.cons k t n kids rest) nest flat st = tellF W rest nest flat (nodeF W k t n kids nest flat st) := by rw [tellF]; rfl
def nodeW (k : Int) (t : ByteArray) (kids : Fo) : Option Nat :=
  if k = 1 then some (widS t) else if k = 2 then some 1 else if k = 3 then some 0 else if k = 4 then none else if k = 5 ∨ k = 6 ∨ k = 7 then widF kids else some 0
theorem wid_cons {k : Int} {t : ByteArray} {n : Int} {kids rest : Fo} {v : Nat} (h : widF (.cons k t n kids rest) = some v) : ∃ a b, nodeW k t kids = some a ∧ widF rest = some b ∧ v = a + b := by
  rw [widF] at h
  unfold nodeW
  split at h
  · rename_i a b h1 h2
    exact ⟨a, b, h1, h2, (Option.some.inj h).symm⟩
  · cases h
theorem wid_put {k : Int} {t : ByteArray} {n : Int} {kids rest : Fo} {a b : Nat} (h1 : nodeW k t kids = some a) (h2 : widF rest = some b) : widF (.cons k t n kids rest) = some (a + b) := by
  unfold nodeW at h1
  rw [widF, h1, h2]
theorem wid_none {k : Int} {t : ByteArray} {n : Int} {kids rest : Fo} (h1 : nodeW k t kids = none) : widF (.cons k t n kids rest) = none := by
  unfold nodeW at h1
  rw [widF, h1]
/-- The nodes' texts are of code points, without line feeds; leaves have nothing within. -/
def GoodF : Fo → Prop
  | .nil => True
  | .cons k t n kids rest => (∃ m, Gd t m) ∧ (∀ j, j < t.size → bt t j ≠ 10) ∧ (1 ≤ k ∧ k ≤ 7) ∧ (k ≤ 4 → kids = .nil) ∧ (0 ≤ n ∧ n ≤ 10000) ∧ GoodF kids ∧ GoodF rest
theorem good_app : ∀ {f g : Fo}, GoodF f → GoodF g → GoodF (f.app g)
  | .nil, g, _, h => h
  | .cons k t n kids r, g, ⟨a, b, c, d, e, f', hr⟩, h => ⟨a, b, c, d, e, f', good_app hr h⟩
theorem cntF_nil {s : ByteArray} (h : s.size = 0) : cntF s = 0 := by unfold cntF; rw [h]; rfl
theorem txt_cnt (st : St) (s : ByteArray) (nest : Int) : cntF (txtS st s nest).out = cntF st.out + cntF s := by
  unfold txtS
  by_cases h : s.size = 0
  · rw [if_pos h, cntF_nil h, Nat.add_zero]
  · rw [if_neg h]
    show cntF ((if st.bg then st.out else st.out ++ manyS 32 nest.toNat) ++ s) = _
    rw [cntF_app]
    cases st.bg with
    | true => rfl
    | false => show cntF (st.out ++ manyS 32 nest.toNat) + _ = _; rw [cntF_app, cntF_blanks, Nat.add_zero]
theorem feed_cnt (st : St) : cntF (feedS st).out = cntF st.out + 1 := by
  show cntF (st.out ++ ⟨#[10]⟩) = _
  rw [cntF_app, cntF_lf]
theorem tell_cnt (W : Int) : ∀ (F : Fo) (nest : Int) (fl : Bool) (st : St), cntF st.out ≤ cntF (tellF W F nest fl st).out := by
  intro F
  induction F with
  | nil => intro nest fl st; exact Nat.le_refl _
  | cons k t n kids rest ihk ihr =>
    intro nest fl st
    rw [tell_cons]
    refine Nat.le_trans ?_ (ihr nest fl _)
    unfold nodeF
    have hf := feed_cnt st
    have ht := txt_cnt st t nest
    have hb := txt_cnt st ⟨#[32]⟩ nest
    repeat' split
    all_goals first | exact ihk _ _ _ | omega
theorem node_cnt (W : Int) (k : Int) (t : ByteArray) (n : Int) (kids : Fo) (nest : Int) (fl : Bool) (st : St) : cntF st.out ≤ cntF (nodeF W k t n kids nest fl st).out := by
  have := tell_cnt W (.cons k t n kids .nil) nest fl st
  rw [tell_cons] at this
  exact this
theorem fits_mono {W W' : Int} {kids : Fo} {nest : Int} {st : St} (h : W ≤ W') (hf : fitsB W kids nest st = true) : fitsB W' kids nest st = true := by
  unfold fitsB at hf ⊢
  cases hw : widF kids with
  | none => rw [hw] at hf; cases hf
  | some v =>
    rw [hw] at hf
    have : (v : Int) ≤ W - atC st nest := by simpa using hf
    show decide _ = true
    exact decide_eq_true (by omega)
/-- What has no row in one width is told the same in a greater one. -/
theorem tell_grow {W W' : Int} (hW : W ≤ W') : ∀ (F : Fo) (nest : Int) (fl fl' : Bool) (st : St), (fl = true → fl' = true) → cntF (tellF W F nest fl st).out = cntF st.out → tellF W' F nest fl' st = tellF W F nest fl st := by
  intro F
  induction F with
  | nil => intro nest fl fl' st _ _; rfl
  | cons k t n kids rest ihk ihr =>
    intro nest fl fl' st hfl hc
    rw [tell_cons] at hc ⊢
    rw [tell_cons]
    have h1 := node_cnt W k t n kids nest fl st
    have h2 := tell_cnt W rest nest fl (nodeF W k t n kids nest fl st)
    have hn : cntF (nodeF W k t n kids nest fl st).out = cntF st.out := by omega
    have hN : nodeF W' k t n kids nest fl' st = nodeF W k t n kids nest fl st := by
      have hf := feed_cnt st
      unfold nodeF at hn ⊢
      by_cases k1 : k = 1
      · rw [if_pos k1, if_pos k1]
      · rw [if_neg k1] at hn ⊢
        rw [if_neg k1]
        by_cases k2 : k = 2
        · rw [if_pos k2] at hn ⊢
          rw [if_pos k2]
          cases fl with
          | true => rw [hfl rfl]
          | false => exfalso; simp only [Bool.false_eq_true, if_false] at hn; omega
        · rw [if_neg k2] at hn ⊢
          rw [if_neg k2]
          by_cases k3 : k = 3
          · rw [if_pos k3] at hn ⊢
            rw [if_pos k3]
            cases fl with
            | true => rw [hfl rfl]
            | false => exfalso; simp only [Bool.false_eq_true, if_false] at hn; omega
          · rw [if_neg k3] at hn ⊢
            rw [if_neg k3]
            by_cases k4 : k = 4
            · exfalso; rw [if_pos k4] at hn; omega
            · rw [if_neg k4] at hn ⊢
              rw [if_neg k4]
              by_cases k5 : k = 5
              · rw [if_pos k5] at hn ⊢
                rw [if_pos k5]
                exact ihk _ _ _ _ hfl hn
              · rw [if_neg k5] at hn ⊢
                rw [if_neg k5]
                by_cases k6 : k = 6
                · rw [if_pos k6] at hn ⊢
                  rw [if_pos k6]
                  exact ihk _ _ _ _ hfl hn
                · rw [if_neg k6] at hn ⊢
                  rw [if_neg k6]
                  by_cases k7 : k = 7
                  · rw [if_pos k7] at hn ⊢
                    rw [if_pos k7]
                    refine ihk _ _ _ _ (fun h => ?_) hn
                    rw [Bool.or_eq_true] at h ⊢
                    rcases h with h | h
                    · exact .inl (hfl h)
                    · exact .inr (fits_mono hW h)
                  · rw [if_neg k7, if_neg k7]
    rw [hN]
    exact ihr nest fl fl' _ hfl (by omega)
/-- What is told flat behind something stands in that row, and is as wide as it is told to be. -/
theorem tell_flat (W : Int) : ∀ (F : Fo) (nest : Int) (st : St) (v m : Nat), GoodF F → widF F = some v → st.bg = true → Gd st.out m →
    (tellF W F nest true st).bg = true ∧ Gd (tellF W F nest true st).out (m + v) ∧ cntF (tellF W F nest true st).out = cntF st.out ∧ (tellF W F nest true st).col = st.col + v := by
  intro F
  induction F with
  | nil => intro nest st v m _ hv hb hg; cases hv; exact ⟨hb, hg, rfl, by show st.col = _; omega⟩
  | cons k t n kids rest ihk ihr =>
    intro nest st v m hG hv hb hg
    obtain ⟨⟨mt, ht⟩, hlf, hk, hl, hn, hgk, hgr⟩ := hG
    obtain ⟨a, b, h1, h2, rfl⟩ := wid_cons hv
    have hN : (nodeF W k t n kids nest true st).bg = true ∧ Gd (nodeF W k t n kids nest true st).out (m + a) ∧ cntF (nodeF W k t n kids nest true st).out = cntF st.out ∧ (nodeF W k t n kids nest true st).col = st.col + a := by
      have htxt : ∀ (s : ByteArray) (ms : Nat), Gd s ms → cntF s = 0 → (txtS st s nest).bg = true ∧ Gd (txtS st s nest).out (m + widS s) ∧ cntF (txtS st s nest).out = cntF st.out ∧ (txtS st s nest).col = st.col + widS s := by
        intro s ms hs hc
        have hw := hs.wid
        have hle := hs.le
        refine ⟨?_, ?_, by rw [txt_cnt, hc, Nat.add_zero], ?_⟩
        · unfold txtS; split
          · exact hb
          · rfl
        · unfold txtS; split
          · rw [hw, show ms = 0 from by omega]; exact hg
          · show Gd (st.out ++ s) (m + widS s)
            rw [hw]; exact hg.app hs
        · unfold txtS; split
          · rw [hw, show ms = 0 from by omega]; show st.col = _; omega
          · show atC st nest + _ = _
            unfold atC; rw [hb]; rfl
      unfold nodeW at h1
      unfold nodeF
      by_cases k1 : k = 1
      · rw [if_pos k1] at h1 ⊢
        cases h1
        exact htxt t mt ht (cntF_zero hlf)
      · rw [if_neg k1] at h1 ⊢
        by_cases k2 : k = 2
        · rw [if_pos k2] at h1 ⊢
          cases h1
          have g := htxt ⟨#[32]⟩ 1 (gd_one 32 (by decide)) (by decide +kernel)
          rw [(gd_one 32 (by decide)).wid] at g
          exact g
        · rw [if_neg k2] at h1 ⊢
          by_cases k3 : k = 3
          · rw [if_pos k3] at h1 ⊢
            cases h1
            exact ⟨hb, hg, rfl, by show st.col = _; omega⟩
          · rw [if_neg k3] at h1 ⊢
            by_cases k4 : k = 4
            · rw [if_pos k4] at h1; cases h1
            · rw [if_neg k4] at h1 ⊢
              have k567 : k = 5 ∨ k = 6 ∨ k = 7 := by omega
              rw [if_pos k567] at h1
              rcases k567 with rfl | rfl | rfl
              · exact ihk _ _ _ _ hgk h1 hb hg
              · exact ihk _ _ _ _ hgk h1 hb hg
              · exact ihk _ _ _ _ hgk h1 hb hg
    obtain ⟨g1, g2, g3, g4⟩ := hN
    rw [tell_cons]
    have hR := ihr nest _ b (m + a) hgr h2 g1 g2
    refine ⟨hR.1, ?_, by rw [hR.2.2.1, g3], by rw [hR.2.2.2, g4]; omega⟩
    have := hR.2.1
    rw [show m + (a + b) = m + a + b from by omega]; exact this
/-- How many rows of their own layouts have that are not told flat. -/
def brF : Fo → Nat
  | .nil => 0
  | .cons k t n kids rest => (if k = 7 then 0 else (if k = 2 ∨ k = 3 ∨ k = 4 then 1 else 0) + brF kids) + brF rest
theorem tell_breaks (W : Int) : ∀ (F : Fo) (nest : Int) (st : St), GoodF F → cntF st.out + brF F ≤ cntF (tellF W F nest false st).out := by
  intro F
  induction F with
  | nil => intro nest st _; exact Nat.le_refl _
  | cons k t n kids rest ihk ihr =>
    intro nest st hG
    obtain ⟨⟨mt, ht⟩, hlf, hk, hl, hn, hgk, hgr⟩ := hG
    rw [tell_cons]
    have hR := ihr nest (nodeF W k t n kids nest false st) hgr
    have hN : cntF st.out + (if k = 7 then 0 else (if k = 2 ∨ k = 3 ∨ k = 4 then 1 else 0) + brF kids) ≤ cntF (nodeF W k t n kids nest false st).out := by
      have hm := node_cnt W k t n kids nest false st
      have hf := feed_cnt st
      by_cases k7 : k = 7
      · rw [if_pos k7]; exact hm
      · rw [if_neg k7]
        by_cases k4 : k ≤ 4
        · have hz : brF kids = 0 := by rw [hl k4]; rfl
          rw [hz]
          by_cases k1 : k = 1
          · rw [if_neg (by omega)]; exact hm
          · rw [if_pos (by omega)]
            unfold nodeF
            rw [if_neg k1]
            by_cases k2 : k = 2
            · rw [if_pos k2]; show _ ≤ cntF (feedS st).out; omega
            · rw [if_neg k2]
              by_cases k3 : k = 3
              · rw [if_pos k3]; show _ ≤ cntF (feedS st).out; omega
              · rw [if_neg k3, if_pos (by omega)]; omega
        · rw [if_neg (by omega), Nat.zero_add]
          unfold nodeF
          rw [if_neg (by omega), if_neg (by omega), if_neg (by omega), if_neg (by omega)]
          rcases (by omega : k = 5 ∨ k = 6) with rfl | rfl
          · exact ihk _ _ hgk
          · exact ihk _ _ hgk
    rw [brF]
    omega
end Bk
end Go.Proofs.Ythkpoiideiimaaa
