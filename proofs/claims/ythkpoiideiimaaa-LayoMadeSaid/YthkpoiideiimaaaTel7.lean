/- Show of package layo: contract. -/
import Derived.Test.YthkpoiideiimaaaTel6
namespace Go.Proofs.Ythkpoiideiimaaa
open Go Go.RowKit Go.PlainAid
set_option linter.unusedVariables false
open Bk (Fo)
theorem tell_all : ∀ (F : Fo), Bk.GoodF F → Bk.costF F ≤ 100000000 → TellAll F
  | .nil, _, _ => trivial
  | .cons k t n kids rest, hG, hc => by
    have hc' : t.size + 1 + Bk.costF kids + Bk.costF rest ≤ 100000000 := hc
    obtain ⟨_, _, hk, hleaf, hn, hgk, hgr⟩ := hG
    have hA := tell_all kids hgk (by omega)
    have hWC := wideC_any kids hgk (by omega)
    refine ⟨?_, tell_all rest hgr (by omega)⟩
    by_cases hk4 : k ≤ 4
    · exact tell_leaf k n t kids ⟨hk.1, hk4⟩
    · intro N b W col nest bg fl out v w hT hv hO hnn hm hz hW
      obtain ⟨a, cp, rfl, hp⟩ := pcv5 (by omega) hv
      have hc0 : 0 ≤ Bk.clampN n := by unfold Bk.clampN; omega
      rcases (by omega : k = 5 ∨ k = 6 ∨ k = 7) with rfl | rfl | rfl
      · refine (tell_list kids hgk hA hWC N b W col nest 0 bg fl false out a cp w hT hp hO hnn (by omega) (by omega) (by omega) hW).mono ?_
        intro e w' h
        refine h.to ?_
        show Bk.tellF W kids (nest + 0) (flatB W kids false fl nest _) _ = Bk.tellF W kids nest fl _
        rw [Int.add_zero]; unfold flatB; simp
      · refine (tell_list kids hgk hA hWC N b W col nest (Bk.clampN n) bg fl false out a cp w hT hp hO hnn (by omega) (by omega) (by omega) hW).mono ?_
        intro e w' h
        refine h.to ?_
        show Bk.tellF W kids (nest + _) (flatB W kids false fl nest _) _ = Bk.tellF W kids (nest + Bk.clampN n) fl _
        unfold flatB; simp
      · refine (tell_list kids hgk hA hWC N b W col nest 0 bg fl true out a cp w hT hp hO hnn (by omega) (by omega) (by omega) hW).mono ?_
        intro e w' h
        refine h.to ?_
        show Bk.tellF W kids (nest + 0) (flatB W kids true fl nest _) _ = Bk.tellF W kids nest (fl || Bk.fitsB W kids nest _) _
        rw [Int.add_zero]; unfold flatB; simp
theorem tellN_any (k n : Int) (t : ByteArray) (kids : Fo) (hG : Bk.GoodF (.cons k t n kids .nil)) (hc : t.size + 1 + Bk.costF kids ≤ 100000000) : TellN k t n kids :=
  (tell_all (.cons k t n kids .nil) hG (by simp only [Bk.costF]; omega)).1
/-- A layout is told in a width. -/
def Bk.showN (W k : Int) (t : ByteArray) (n : Int) (kids : Fo) : ByteArray := (Bk.nodeF W k t n kids 0 false Bk.st0).out
theorem Bk.show_one (W k : Int) (t : ByteArray) (n : Int) (kids : Fo) : Bk.showF W (.cons k t n kids .nil) = Bk.showN W k t n kids := by
  unfold Bk.showF Bk.showN; rw [Bk.tell_cons]; rfl
/-- What a walk asks of a layout. -/
structure Lays (k n : Int) (t : ByteArray) (kids : Fo) : Prop where
  good : Bk.GoodF (.cons k t n kids .nil)
  short : Bk.ShortF kids
  len : kids.len ≤ 1000000
  nest : (Bk.clampN n).toNat + Bk.nstF kids ≤ 1000
  cost : t.size + 1 + Bk.costF kids ≤ 98000
def ShowPost (s : ByteArray) (w : World) (e : Ending) (w' : World) : Prop := e = .returned (.string s) ∧ Below w.heap.size w w'
set_option maxRecDepth 100000 in
set_option maxHeartbeats 4000000 in
theorem show_any (width k n : Int) (t : ByteArray) (kids : Fo) (a : Option Addr) (cp : Nat) (w : World) (hs : SlAt w (fun _ => True) a kids) (h : Lays k n t kids) (hW : width ≤ 9223372036854775807) :
    Calls Try.prog 14 #[.int .i64 width, .agg #[.int .i64 k, .string t, .int .i64 n, .slice a kids.len cp]] w (ShowPost (Bk.showN (max width 0) k t n kids) w) := by
  obtain ⟨hG, hS, hl, hne, hc⟩ := h
  obtain ⟨_, _, hk, hleaf, hn, hgk, _⟩ := id hG
  have HTN := Lib.hid (tellN_any k n t kids hG (by omega))
  have HOF := Lib.hid (fun w' (hb : Below w.heap.size w w') => of_any k n t kids a cp w' hk hn (hs.below hb) (fun _ => kids_any kids hgk (kids_all kids hgk hS) hl))
  obtain ⟨W, hWW⟩ : ∃ W, W = max width 0 := ⟨_, rfl⟩
  rw [← hWW]
  have hW0 : 0 ≤ W ∧ W ≤ 9223372036854775807 := by omega
  have HWW := Lib.hid hWW
  have HW0 := Lib.hid hW0
  have HNE := Lib.hid hne
  have HC := Lib.hid hc
  clear hs hG hS hgk hleaf hn hk hWW hW0 hne hc hl
  obtain ⟨R, hR⟩ : ∃ R, R = Bk.showN W k t n kids := ⟨_, rfl⟩
  rw [← hR]
  have HR := Lib.hid hR
  clear hR
  have HB := Lib.hid ((Below.refl w.heap.size w).alloc (Nat.le_refl _) (.cells #[.int .i64 k, .string t, .int .i64 n, .slice a kids.len cp] 26) |>.alloc (by simp) (.cells #[.pointer none, .slice none 0 0, .int .i64 (max width 0), .int .i64 0, .bool false] 54))
  have HBK : Hid (((w.alloc (.cells #[.int .i64 k, .string t, .int .i64 n, .slice a kids.len cp] 26)).alloc (.cells #[.pointer none, .slice none 0 0, .int .i64 (max width 0), .int .i64 0, .bool false] 54)).heap[w.heap.size + 1]? = some (.cells #[.pointer none, .slice none 0 0, .int .i64 W, .int .i64 0, .bool false] 54)) := Lib.hid (by
    have := heap_alloc_new (w.alloc (.cells #[.int .i64 k, .string t, .int .i64 n, .slice a kids.len cp] 26)) (.cells #[.pointer none, .slice none 0 0, .int .i64 (max width 0), .int .i64 0, .bool false] 54)
    rw [HWW.out]; simpa using this)
  have HOK : Hid (Bk.Okd ⟨ByteArray.empty, 0, false⟩) := Lib.hid ⟨Int.le_refl 0, Int.le_refl 0⟩
  go_enter Try.func14, Try.ntmps14
  go_wp2_with first
    | (go_at_call 22; refine (HOF.out _ HB.out).mono ?_; rintro e w2 ⟨v, rfl, hp, hg⟩; have hsz := hg.size; simp at hsz; have HTL : Hid (TlAt w2.heap.size (w.heap.size + 1) W ⟨ByteArray.empty, 0, false⟩ w2) := Lib.hid ⟨_, _, .inl rfl, by omega, Nat.le_refl _, (hg.block _ (by simp)).trans HBK.out, World.ownsRow_nil _ _ _ _⟩; have HPV : Hid (PcV (PSl w2 (fun i => i < w2.heap.size ∧ i ≠ w.heap.size + 1) kids) k t n kids.len v) := Lib.hid (hp.mono fun q hq => hq.weak (fun i hi h => ⟨hi, by simp at h; omega⟩)); have HG := Lib.hid (HB.out.trans (hg.mono (by simp; omega))); clear hp hg hsz)
    | (go_at_call 24; refine (HTN.out w2.heap.size (w.heap.size + 1) W 0 0 false false ByteArray.empty _ w2 HTL.out HPV.out HOK.out (Int.le_refl 0) (by have := HNE.out; omega) (by have := HC.out; show 0 + _ ≤ _; omega) HW0.out).mono ?_; rintro e w3 ⟨rfl, h1, h2⟩; obtain ⟨p3, v3, hp3, h3⟩ := h1; have H3 := Lib.hid h3; have HG3 := Lib.hid (HG.out.trans (h2.below.mono (by omega))); clear h2 h3)
    | (go_at_call 25; refine (str_tel p3 v3 _ _ _ _ _ _ w3 H3.out).mono ?_; rintro e w4 ⟨rfl, h4⟩; have HG4 := Lib.hid (HG3.out.trans (h4.mono HG.out.size)); clear h4)
  go_ret
  exact ⟨by rw [HR.out]; rfl, HG4.out⟩
end Go.Proofs.Ythkpoiideiimaaa
