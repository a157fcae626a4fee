/- kids of package layo: contract. -/
import Derived.Test.YthkpoiideiimaaaLay5
import Derived.Deep.AppendLies
namespace Go.Proofs.Ythkpoiideiimaaa
open Go Go.RowKit Go.PlainAid
set_option linter.unusedVariables false
open Bk (Fo)
theorem row_app {w : World} {ok : Nat → Prop} : ∀ {P Q : Fo} {b off : Nat}, RowAt w ok (P.app Q) b off → RowAt w ok Q b (off + P.len * 4)
  | .nil, Q, b, off, h => by simpa [Fo.app, Fo.len] using h
  | .cons k t n kids r, Q, b, off, h => by
    have := row_app (P := r) h.2.2.2.2
    rw [show off + (Fo.cons k t n kids r).len * 4 = off + 4 + r.len * 4 from by simp only [Fo.len]; omega]
    exact this
/-- No layout has too many within. -/
def Bk.ShortF : Fo → Prop
  | .nil => True
  | .cons k t n kids rest => kids.len ≤ 1000000 ∧ Bk.ShortF kids ∧ Bk.ShortF rest
/-- The values of pieces, in a list. -/
def PList (w : World) (ok : Nat → Prop) : Fo → List Value → Prop
  | .nil, vs => vs = []
  | .cons k t n kids rest, vs => ∃ v us, vs = v :: us ∧ PcV (PSl w ok kids) k t n kids.len v ∧ PList w ok rest us
theorem PList.agree {w w' : World} {ok : Nat → Prop} (k : Agree ok w w') : ∀ {F : Fo} {vs : List Value}, PList w ok F vs → PList w' ok F vs
  | .nil, vs, h => h
  | .cons kd t n kids rest, vs, ⟨v, us, h1, h2, h3⟩ => ⟨v, us, h1, h2.mono fun a ha => ha.agree k, PList.agree k h3⟩
theorem PList.weak {w : World} {ok ok' : Nat → Prop} (hok : ∀ i, i < w.heap.size → ok i → ok' i) : ∀ {F : Fo} {vs : List Value}, PList w ok F vs → PList w ok' F vs
  | .nil, vs, h => h
  | .cons kd t n kids rest, vs, ⟨v, us, h1, h2, h3⟩ => ⟨v, us, h1, h2.mono fun a ha => ha.weak hok, PList.weak hok h3⟩
theorem PList.len {w : World} {ok : Nat → Prop} : ∀ {F : Fo} {vs : List Value}, PList w ok F vs → vs.length = F.len
  | .nil, vs, h => by rw [show vs = [] from h]; rfl
  | .cons kd t n kids rest, vs, ⟨v, us, h1, h2, h3⟩ => by rw [h1, List.length_cons, PList.len h3]; rfl
theorem PList.put {w : World} {ok : Nat → Prop} {k n : Int} {t : ByteArray} {kids : Fo} {v : Value} (hv : PcV (PSl w ok kids) k t n kids.len v) : ∀ {F : Fo} {vs : List Value}, PList w ok F vs → PList w ok (F.app (.cons k t n kids .nil)) (vs ++ [v])
  | .nil, vs, h => by rw [show vs = [] from h]; exact ⟨v, [], rfl, hv, rfl⟩
  | .cons kd t n kids rest, vs, ⟨u, us, h1, h2, h3⟩ => by rw [h1]; exact ⟨u, us ++ [v], rfl, h2, PList.put hv h3⟩
theorem PList.row {w : World} {ok : Nat → Prop} {b : Nat} : ∀ {F : Fo} {vs : List Value} {off : Nat}, PList w ok F vs → (∀ j, j < vs.length → w.cell? ⟨b, off + j, none⟩ = vs[j]?) → PRow w ok F b off
  | .nil, vs, off, h, hc => trivial
  | .cons kd t n kids rest, vs, off, ⟨v, us, h1, h2, h3⟩, hc => by
    subst h1
    refine ⟨⟨v, ?_, h2.mono fun a ha => ha⟩, PList.row h3 (fun j hj => ?_)⟩
    · have := hc 0 (by simp)
      simpa using this
    · have := hc (j + 1) (by simpa using hj)
      rw [show off + 1 + j = off + (j + 1) from by omega, this]; rfl
theorem pcv_iface {F : Option Addr → Prop} {k n : Int} {t : ByteArray} {len : Nat} {v : Value} (h : PcV F k t n len v) : ∃ T x, v = .iface T x := by
  rcases h with ⟨_, rfl⟩ | ⟨_, rfl⟩ | ⟨_, rfl⟩ | ⟨_, rfl⟩ | ⟨_, a, cp, rfl, _⟩ <;> exact ⟨_, _, rfl⟩
theorem owns_below {B : Nat} {e : TypeId} {size n : Nat} {v : Value} {xs : List Value} {w w' : World} (h : w.ownsRow B e size v n xs) (k : Below w.heap.size w w') : w'.ownsRow B e size v n xs := by
  refine ⟨h.1, ?_⟩
  rcases h.2 with hn | ⟨g, cap, cur, hv, hg, hgb, rest⟩
  · exact .inl hn
  · refine .inr ⟨g, cap, cur, hv, hg, (k.block g ?_).trans hgb, rest⟩
    rcases Nat.lt_or_ge g w.heap.size with h' | h'
    · exact h'
    · simp [Array.getElem?_eq_none h'] at hgb
/-- Pieces so far, in a row of the call's own. -/
structure Got (B : Nat) (v : Value) (P : Fo) (vs : List Value) (w : World) : Prop where
  own : w.ownsRow B 45 1 v vs.length vs
  list : PList w (fun i => B ≤ i ∧ some i ≠ v.ownBlock) P vs
theorem Got.below {B : Nat} {v : Value} {P : Fo} {vs : List Value} {w w' : World} (h : Got B v P vs w) (k : Below w.heap.size w w') : Got B v P vs w' := ⟨owns_below h.own k, h.list.agree (agree_below k)⟩
theorem got_nil (B : Nat) (w : World) : Got B (.slice none 0 0) .nil [] w := ⟨World.ownsRow_nil _ _ _ _, rfl⟩
theorem Try.info45 : (Try.prog.info? 45).map (fun i => (i.zero, i.size, i.bytes)) = some (some .nilIface, 1, 16) := by kernel_rfl
theorem app_pc {ops : Array Oper} {rest : List Oper} {o : Oper} {a : Act} {Q : Exit → Act → World → Prop} {w0 wr : World} (hgd : o.guard = none) (s x : Operand)
    (ho : o.op = .call { callee := .builtin .append, args := #[s, x], argTypes := #[68, 68] }) (v : Value) (P : Fo) (vs : List Value) {k n : Int} {t : ByteArray} {kids : Fo} (T : TypeId) (u : Value) (hs : a.eval s = v)
    (hx : a.eval x = .slice (some ⟨wr.heap.size, 0, none⟩) 1 1) (hgot : Hid (Got w0.heap.size v P vs wr)) (hp : Hid (PcV (PSl wr (fun i => w0.heap.size ≤ i ∧ some i ≠ v.ownBlock) kids) k t n kids.len (.iface T u)))
    (hlen : vs.length ≤ 1000000) (hb : Hid (Below w0.heap.size w0 wr))
    (h : ∀ v' w', Hid (Got w0.heap.size v' (P.app (.cons k t n kids .nil)) (vs ++ [.iface T u]) w') → Hid (Below w0.heap.size w0 w') → wpList Try.prog ops Q rest (a.put o.dst v') w') :
    wpList Try.prog ops Q (o :: rest) a (wr.alloc (.cells #[.iface T u] 45)) := by
  obtain ⟨i0, hi, hz0, hz1, hz2⟩ := info_parts Try.info45
  have hB : w0.heap.size ≤ wr.heap.size := hb.out.size
  refine wpList_append_lies _ hgd s x 68 ho w0.heap.size 45 i0 .nilIface 1 16 Try.underlying68 hi hz0 hz1 hz2 rfl (by decide) v vs.length vs hs (World.ownsRow.alloc hgot.out.own _) ⟨wr.heap.size, 0, none⟩ 1 1 [.iface T u] hx rfl ?_ ?_ (by decide) ?_ ?_ ?_ (wr.heap.size + 1) (by simp) ?_
  · intro j z hj
    match j, hj with
    | 0, hj => simp at hj; subst hj; simp [Addr.add]
    | j + 1, hj => simp at hj
  · intro z hz; simp at hz; subst hz; rfl
  · unfold maxLen; omega
  · omega
  · simp; omega
  · intro g cap w' hown' hgrow hg hlt
    have hbel : Below wr.heap.size wr (wr.alloc (.cells #[.iface T u] 45)) := (Below.refl _ _).alloc (Nat.le_refl _) _
    have hL := PList.put hp.out hgot.out.list
    have hL3 : PList wr (fun i => (w0.heap.size ≤ i ∧ some i ≠ v.ownBlock) ∧ i < wr.heap.size) (P.app (.cons k t n kids .nil)) (vs ++ [.iface T u]) := hL.weak (fun i hi h => ⟨h, hi⟩)
    have hL4 := (hL3.agree (agree_below hbel)).agree (agree_grown hgrow (fun i h => h.1.2))
    refine h _ w' (Lib.hid ⟨?_, ?_⟩) (Lib.hid ?_)
    · rw [List.length_append]; exact hown'
    · exact hL4.weak (fun i _ ⟨⟨h1, h2⟩, h3⟩ => ⟨h1, fun e => by
        have e2 : i = g := by simpa [Value.ownBlock] using e
        rcases hg with hg | hg
        · exact h2 (by rw [hg, e2])
        · omega⟩)
    · exact (hb.out.alloc hB _).grown hgrow (by simp; omega) (fun k hk => (World.ownsRow.lt hgot.out.own k hk).1)
def KidsAll : Fo → Prop
  | .nil => True
  | .cons k t n kids rest => (5 ≤ k → KidsC kids) ∧ KidsAll rest
theorem kidsAll_app : ∀ {P Q : Fo}, KidsAll (P.app Q) → KidsAll Q
  | .nil, Q, h => h
  | .cons _ _ _ _ r, Q, h => kidsAll_app (P := r) h.2
theorem good_split : ∀ {P Q : Fo}, Bk.GoodF (P.app Q) → Bk.GoodF Q
  | .nil, Q, h => h
  | .cons _ _ _ _ r, Q, h => good_split (P := r) h.2.2.2.2.2.2
theorem got_end {B : Nat} {v : Value} {P : Fo} {vs : List Value} {w : World} (h : Got B v P vs w) : ∃ a cp, v = .slice a P.len cp ∧ PSl w (fun i => B ≤ i) P a := by
  have hl := h.list.len
  rcases h.own.2 with ⟨hv, h0⟩ | ⟨g, cap, cur, hv, hg, hgb, hn, hm, hs, ht⟩
  · refine ⟨none, 0, ?_, .inl (by omega)⟩
    rw [hv, ← hl, h0]
  · refine ⟨some ⟨g, 0, none⟩, cap, by rw [hv, hl], .inr ⟨g, 0, rfl, (Array.getElem?_eq_some_iff.1 hgb).1, hg, ?_⟩⟩
    refine (PList.row (b := g) (off := 0) h.list (fun j hj => ?_)).weak (fun i _ h => h.1)
    rw [Nat.zero_add]
    have h1 : w.cell? ⟨g, j, none⟩ = cur[j]? := by simp [World.cell?, hgb]
    have h2 : (cur.toList.take (vs.length * 1))[j]? = vs[j]? := by rw [ht]
    rw [List.getElem?_take_of_lt (by omega), Array.getElem?_toList] at h2
    rw [h1, h2]
set_option maxRecDepth 20000 in
set_option maxHeartbeats 3200000 in
theorem kids_any (F : Fo) (hG : Bk.GoodF F) (hK : KidsAll F) (hlen : F.len ≤ 1000000) : KidsC F := by
  intro a cp w hs
  have HS := Lib.hid hs
  have HG := Lib.hid hG
  have HK := Lib.hid hK
  clear hs hG hK
  obtain ⟨L, hL⟩ : ∃ L, L = F.len := ⟨_, rfl⟩
  have hpost : ∀ w' a' cp', PSl w' (fun i => w.heap.size ≤ i) F a' → Below w.heap.size w w' → KidsPost F w (.returned (.slice a' L cp')) w' := fun w' a' cp' h1 h2 => ⟨a', cp', by rw [hL], h1, h2⟩
  have HPOST := Lib.hid hpost
  rw [← hL] at hlen ⊢
  have HL := Lib.hid hL
  clear hL hpost
  go_enter Try.func28, Try.ntmps28
  go_wp2_with fail
  go_loopw [3, 8] (fun v i wr => ∃ (P Q : Fo) (vs : List Value), P.len ≤ L ∧ i = .int .i64 P.len ∧ Hid (F = P.app Q) ∧ Hid (Got w.heap.size v P vs wr) ∧ Hid (Below w.heap.size w wr)) (fun _ i _ => L - (intOf i).toNat)
  case atStart => exact ⟨.nil, F, [], by simp [Fo.len], rfl, Lib.hid rfl, Lib.hid (got_nil _ _), Lib.hid (Below.refl _ _)⟩
  case round =>
    obtain ⟨P, Q, vs, hPL, rfl, HF, HGOT, HW⟩ := hrel
    cases Q with
    | nil =>
      have hPF : F = P := by rw [HF.out, Fo.app_nil]
      have hPl : P.len = L := by rw [HL.out, hPF]
      obtain ⟨a', cp', hv, hps⟩ := got_end HGOT.out
      subst hv
      have HPS : Hid (PSl wr (fun i => w.heap.size ≤ i) F a') := Lib.hid (by rw [hPF]; exact hps)
      clear hps hPF
      obtain ⟨m, hm⟩ : ∃ m, m = P.len := ⟨_, rfl⟩
      rw [← hm] at hPL hPl ⊢
      have hml : ¬ m < L := by omega
      have HML := Lib.hid hPl
      clear hPl hm
      go_wp2_with fail
      go_ret
      rw [HML.out]
      exact HPOST.out _ _ _ HPS.out HW.out
    | cons k t n kids Q =>
      have hlt : P.len < L := by
        have h1 := congrArg Fo.len HF.out
        rw [Fo.app_len, ← HL.out] at h1
        simp only [Fo.len] at h1
        omega
      rcases HS.out with h0 | ⟨b, off, rfl, hb, _, hr⟩
      · have := HL.out; omega
      rw [HF.out] at hr
      obtain ⟨c0, c1, c2, ⟨a3, cp3, c3, hk3⟩, hrest⟩ := row_app hr
      clear hrest
      have hcell : ∀ o, wr.cell? ⟨b, o, none⟩ = w.cell? ⟨b, o, none⟩ := fun o => HW.out.cell (p := ⟨b, o, none⟩) hb
      rw [← hcell] at c0 c1 c2 c3
      clear hcell hr
      have hg := good_split (P := P) (by have := HG.out; rw [HF.out] at this; exact this)
      have hka := kidsAll_app (P := P) (by have := HK.out; rw [HF.out] at this; exact this)
      have HSK : Hid (SlAt w (fun _ => True) a3 kids) := Lib.hid hk3
      have HKN := Lib.hid hka.1
      have HGN : Hid ((1 ≤ k ∧ k ≤ 7) ∧ 0 ≤ n ∧ n ≤ 10000) := Lib.hid ⟨hg.2.2.1, hg.2.2.2.2.1⟩
      clear hg hka hk3
      have HVL2 : Hid (vs.length ≤ 1000000) := Lib.hid (by rw [HGOT.out.list.len]; omega)
      have HF2 : Hid (F = (P.app (.cons k t n kids .nil)).app Q) := Lib.hid (by rw [HF.out, Fo.app_assoc]; rfl)
      have HPL : Hid ((P.app (.cons k t n kids .nil)).len = P.len + 1) := Lib.hid (by rw [Fo.app_len]; rfl)
      have HWx := Lib.hid (HW.out.alloc HW.out.size (.cells #[.int .i64 k, .string t, .int .i64 n, .slice a3 kids.len cp3] 26))
      have HBx := Lib.hid ((Below.refl wr.heap.size wr).alloc (Nat.le_refl _) (.cells #[.int .i64 k, .string t, .int .i64 n, .slice a3 kids.len cp3] 26))
      have HOWN := Lib.hid (World.ownsRow.lt HGOT.out.own)
      go_wp2_with first
        | (go_at_call 22; refine (of_any k n t kids a3 cp3 _ HGN.out.1 HGN.out.2 (HSK.out.below HWx.out) HKN.out).mono ?_; rintro e w2 ⟨v2, rfl, hp2, hg2⟩; obtain ⟨T2, x2, rfl⟩ := pcv_iface hp2; have HP2 := Lib.hid (hp2.mono fun q hq => hq.weak (ok' := fun i => w.heap.size ≤ i ∧ some i ≠ u3.ownBlock) (fun i _ h => by have h1 := HW.out.size; simp at h; exact ⟨by omega, fun e => by have := (HOWN.out i e.symm).2; omega⟩)); have HGOT2 := Lib.hid (HGOT.out.below (HBx.out.trans (hg2.mono (by simp)))); have HW2 := Lib.hid (HWx.out.trans (hg2.mono HWx.out.size)); clear hp2 hg2)
        | (at_builtin; refine app_pc (w0 := w) rfl (.tmp 12) (.tmp 15) rfl u3 P vs T2 x2 rfl rfl HGOT2 HP2 HVL2.out HW2 ?_; intro v3 w3 HO3 HW3)
      go_roundw
      case rel => exact ⟨P.app (.cons k t n kids .nil), Q, _, by rw [HPL.out]; omega, by rw [HPL.out]; go_num, HF2, HO3, HW3⟩
      case measure => simp [intOf]; omega
/-- Each forest's pieces. -/
theorem kids_all : ∀ (F : Fo), Bk.GoodF F → Bk.ShortF F → KidsAll F
  | .nil, _, _ => trivial
  | .cons k t n kids rest, hG, hS => ⟨fun _ => kids_any kids hG.2.2.2.2.2.1 (kids_all kids hG.2.2.2.2.2.1 hS.2.1) hS.1, kids_all rest hG.2.2.2.2.2.2 hS.2.2⟩
end Go.Proofs.Ythkpoiideiimaaa
