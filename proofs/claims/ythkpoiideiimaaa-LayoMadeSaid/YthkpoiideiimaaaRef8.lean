/- Lay of the reference: contract; the law LayoMade of chapter 25: its walk. -/
import Derived.Test.YthkpoiideiimaaaRef7
import Derived.Laws.BytesArg
namespace Go.Proofs.Ythkpoiideiimaaa
open Go Go.RowKit Go.PlainAid
set_option linter.unusedVariables false
open Bk (Fo)
theorem RtPost.to {N b : Nat} {W : Int} {st st' : Bk.St} {w : World} {e : Ending} {w' : World} (h : RtPost N b W st w e w') (hs : st = st') : RtPost N b W st' w e w' := hs ▸ h
theorem rl_all : ∀ (F : Fo), Bk.GoodF F → Bk.costF F ≤ 98000 → RlAll F
  | .nil, _, _ => trivial
  | .cons k t n kids rest, hG, hc => by
    have hc' : t.size + 1 + Bk.costF kids + Bk.costF rest ≤ 98000 := hc
    have hG' := hG
    obtain ⟨hg, hlf, hk, hleaf, hn, hgk, hgr⟩ := hG
    have hA := rl_all kids hgk (by omega)
    refine ⟨?_, rl_all rest hgr (by omega)⟩
    by_cases hk4 : k ≤ 4
    · exact rlay_leaf k n t kids ⟨hk.1, hk4⟩ hg
    · intro N b W col nest bg fl out a cp w hT hs hO hnn hm hz hW
      have hcn := clamp_is hn.1 hn.2
      rcases (by omega : k = 5 ∨ k = 6 ∨ k = 7) with rfl | rfl | rfl
      · exact rlay_cat n t kids hA hn N b W col nest bg fl out a cp w hT hs hO hnn (by omega) (by omega) hW
      · refine (rlay_nest n t kids hA hn N b W col nest bg fl out a cp w hT hs hO hnn (by omega) (by omega) hW).mono ?_
        intro e w' h
        refine h.to ?_
        show _ = Bk.tellF W kids (nest + Bk.clampN n) fl _
        rw [hcn]
      · cases fl with
        | true => exact rlay_flat n t kids hA hn N b W col nest bg out a cp w hT hs hO hnn (by omega) (by omega) hW
        | false =>
          refine (rlay_group n t kids ⟨hg, hlf, hk, hleaf, hn, hgk, trivial⟩ (by omega) hA hn N b W col nest bg _ out a cp w hT hs hO hnn (by omega) (by omega) hW rfl).mono ?_
          intro e w' h
          refine h.to ?_
          show _ = Bk.tellF W kids nest (false || _) _
          rw [Bool.false_or]
theorem nums_back (t : ByteArray) : strOfNums (t.data.toList.map fun b => (b.toNat : Int)) = t := by
  have h : ∀ l : List UInt8, (l.map fun b => (b.toNat : Int)).map (fun n => UInt8.ofNat n.toNat) = l := by
    intro l
    induction l with
    | nil => rfl
    | cons b l ih => rw [List.map_cons, List.map_cons, ih, Int.toNat_natCast, UInt8.ofNat_toNat]
  apply ByteArray.ext
  unfold strOfNums
  rw [h]
theorem conv_own {w : World} {N : Nat} {v : Value} {t : ByteArray} (h : w.ownsRow N 5 1 v t.size (Lib.strCells t)) : (convert 50 9 v).run Try.prog w = .ok (.string t) w := by
  rcases h.2 with ⟨rfl, h0⟩ | ⟨g, cap, cur, rfl, hg, hgb, hn, hm, hs, ht⟩
  · have e : t = ByteArray.empty := Bk.ba_ext (by rw [h0]; rfl) (fun j hj => by omega)
    rw [run_convert_bytes_string w 50 9 5 none 0 0 Try.underlying50 Try.underlying5 Try.underlying9, e]
    rfl
  · have hl : t.data.toList.length = t.size := by rw [← Lib.size_eq]
    have := run_convert_bytes_arg (P := Try.prog) w 50 5 Try.underlying50 Try.underlying5 g 0 t.size cap (t.data.toList.map fun b => (b.toNat : Int)) (by rw [List.length_map, hl]) (fun i hi => by
      rw [Nat.zero_add, Lib.cell_of_heap hgb]
      have h2 : (cur.toList.take (t.size * 1))[i]? = (Lib.strCells t)[i]? := by rw [ht]
      rw [List.getElem?_take_of_lt (by omega), Array.getElem?_toList] at h2
      rw [h2]
      unfold Lib.strCells
      have hi2 : i < t.data.toList.length := by omega
      rw [List.getElem?_map, List.getElem?_eq_getElem hi2, List.getD_eq_getElem?_getD, List.getElem?_map, List.getElem?_eq_getElem hi2]
      rfl) 9 Try.underlying9
    rw [nums_back] at this
    exact this
set_option maxRecDepth 100000 in
set_option maxHeartbeats 4000000 in
theorem rlay_at (width k n : Int) (t : ByteArray) (kids : Fo) (a : Option Addr) (cp L : Nat) (s : ByteArray) (w : World) (hL : kids.len = L) (hr : Bk.showN (max width 0) k t n kids = s) (hs : SlAt w (fun _ => True) a kids) (h : Lays k n t kids) (hW : width ≤ 9223372036854775807) :
    Calls Try.prog 15 #[.int .i64 width, .agg #[.int .i64 k, .string t, .int .i64 n, .slice a L cp]] w (ShowPost s w) := by
  subst hL
  obtain ⟨hG, hS, hl, hne, hc⟩ := h
  have HTN := Lib.hid (rl_all (.cons k t n kids .nil) hG (by simp only [Bk.costF]; omega)).1
  obtain ⟨W, hWW⟩ : ∃ W, W = max width 0 := ⟨_, rfl⟩
  rw [← hWW] at hr
  have hW0 : 0 ≤ W ∧ W ≤ 9223372036854775807 := by omega
  have HWW := Lib.hid hWW
  have HW0 := Lib.hid hW0
  have HNE := Lib.hid hne
  have HC := Lib.hid hc
  have HR := Lib.hid hr
  have hsl : SlAt w (fun i => i < w.heap.size) a kids := by
    rcases hs with h | ⟨b, off, rfl, hb, _, hr⟩
    · exact .inl h
    · exact .inr ⟨b, off, rfl, hb, hb, hr.weak (fun i hi _ => hi)⟩
  obtain ⟨w1, hw1⟩ : ∃ w1, w1 = (w.alloc (.cells #[.int .i64 k, .string t, .int .i64 n, .slice a kids.len cp] 26)).alloc (.cells #[.slice none 0 0, .int .i64 0, .bool true, .int .i64 (max width 0)] 59) := ⟨_, rfl⟩
  have hsz1 : w1.heap.size = w.heap.size + 1 + 1 := by rw [hw1]; simp
  have hb1 : Below w.heap.size w w1 := by rw [hw1]; exact ((Below.refl _ _).alloc (Nat.le_refl _) _).alloc (by simp) _
  have hbk : w1.heap[w.heap.size + 1]? = some (.cells #[.slice none 0 0, .int .i64 0, .bool true, .int .i64 W] 59 (0, 0)) := by
    have h1 : (w.alloc (.cells #[.int .i64 k, .string t, .int .i64 n, .slice a kids.len cp] 26)).heap.size = w.heap.size + 1 := by simp
    rw [hw1, hWW, ← h1]; exact heap_alloc_new _ _
  have HTL : Hid (RtAt w1.heap.size (w.heap.size + 1) W ⟨ByteArray.empty, 0, false⟩ w1) := Lib.hid ⟨.slice none 0 0, by omega, Nat.le_refl _, hbk, World.ownsRow_nil _ _ _ _⟩
  have HSL : Hid (SlAt w1 (fun i => i < w1.heap.size ∧ i ≠ w.heap.size + 1) a kids) := Lib.hid ((hsl.below hb1).weak (fun i hi h => ⟨hi, by omega⟩))
  have HOK : Hid (Bk.Okd ⟨ByteArray.empty, 0, false⟩) := Lib.hid ⟨Int.le_refl 0, Int.le_refl 0⟩
  have HB1 := Lib.hid hb1
  have HW1 := Lib.hid hw1
  have HSZ1 := Lib.hid hsz1
  clear hs hG hS hne hc hr hl hsl hW0 hWW hw1 hsz1 hb1 hbk
  go_enter Try.func15, Try.ntmps15
  go_wp2_with fail
  rw [← HW1.out]
  refine (HTN.out w1.heap.size (w.heap.size + 1) W 0 0 false false ByteArray.empty a cp w1 HTL.out HSL.out HOK.out (Int.le_refl 0) (by have := HNE.out; omega) (by have := HC.out; show 0 + _ ≤ _; omega) HW0.out).mono ?_
  rintro e w3 ⟨rfl, h1, h2⟩
  obtain ⟨st3, hst3⟩ : ∃ st3, st3 = Bk.nodeF W k t n kids 0 false ⟨ByteArray.empty, 0, false⟩ := ⟨_, rfl⟩
  rw [← hst3] at h1
  have hso : st3.out = s := by rw [hst3]; exact HR.out
  clear hst3
  obtain ⟨o3, cl3, bg3⟩ := st3
  have hso : o3 = s := hso
  subst hso
  obtain ⟨v3, ⟨c0, c1, c2, c3, f0, f1, f2⟩, HP3⟩ := h1.rcells
  have HG3 := Lib.hid (HB1.out.trans (h2.below.mono (by have := HSZ1.out; omega)))
  have hcv := conv_own HP3.out.2.2.2
  clear h1 h2 HP3
  go_wp2_with fail
  go_ret
  exact ⟨rfl, HG3.out⟩
end Go.Proofs.Ythkpoiideiimaaa
