/- The reference's teller: lay; Lay: contracts. -/
import Derived.Test.YthkpoiideiimaaaRef5
namespace Go.Proofs.Ythkpoiideiimaaa
open Go Go.RowKit Go.PlainAid
set_option linter.unusedVariables false
open Bk (Fo)
/-- How a layout is told by the reference. -/
def RlN (k : Int) (t : ByteArray) (kids : Fo) (n : Int) : Prop :=
  ∀ (N b : Nat) (W col nest : Int) (bg fl : Bool) (out : ByteArray) (a : Option Addr) (cp : Nat) (w : World), RtAt N b W ⟨out, col, bg⟩ w → SlAt w (fun i => i < N ∧ i ≠ b) a kids → Bk.Okd ⟨out, col, bg⟩ →
    0 ≤ nest → nest + (Bk.clampN n).toNat + Bk.nstF kids ≤ 1000 → out.size + 1001 * (t.size + 1 + Bk.costF kids) ≤ 99000000 → 0 ≤ W ∧ W ≤ 9223372036854775807 →
    Calls Try.prog 26 #[.pointer (some ⟨b, 0, none⟩), .agg #[.int .i64 k, .string t, .int .i64 n, .slice a kids.len cp], .int .i64 nest, .bool fl] w (RtPost N b W (Bk.nodeF W k t n kids nest fl ⟨out, col, bg⟩) w)
def RlAll : Fo → Prop
  | .nil => True
  | .cons k t n kids rest => RlN k t kids n ∧ RlAll rest
theorem rlAll_app : ∀ {P Q : Fo}, RlAll (P.app Q) → RlAll Q
  | .nil, Q, h => h
  | .cons _ _ _ _ r, Q, h => rlAll_app (P := r) h.2
theorem rstay_agree {N b : Nat} {w w' : World} (h : RStay N b w w') : Agree (fun i => i < N ∧ i ≠ b) w w' := ⟨h.below.size, fun i _ hk => h.block i hk.1 hk.2⟩
set_option maxRecDepth 100000 in
set_option maxHeartbeats 8000000 in
theorem rlay_leaf (k n : Int) (t : ByteArray) (kids : Fo) (hk : 1 ≤ k ∧ k ≤ 4) (hg : ∃ m, Bk.Gd t m) : RlN k t kids n := by
  intro N b W col nest bg fl out a cp w hT hs hO hn hm hz hW
  obtain ⟨L, hL⟩ : ∃ L, kids.len = L := ⟨_, rfl⟩
  rw [hL]
  clear hL hs
  have HLT := Lib.hid hT.lt
  rcases (by omega : k = 1 ∨ k = 2 ∨ k = 3 ∨ k = 4) with rfl | rfl | rfl | rfl
  · exact rtext_any N b W col nest bg fl out t n a L cp w hT hO hn (by omega) (by omega) hg
  · have HB := Lib.hid ((Below.refl w.heap.size w).alloc (Nat.le_refl _) (.cells #[.int .i64 2, .string t, .int .i64 n, .slice a L cp] 26))
    have HT := Lib.hid (hT.below HB.out)
    have HO := Lib.hid hO
    clear hT hO
    cases fl with
    | true =>
      have HX : Hid (Bk.nodeF W 2 t n kids nest true ⟨out, col, bg⟩ = Bk.txtS ⟨out, col, bg⟩ ⟨#[32]⟩ nest) := Lib.hid rfl
      have q1 : ({ data := #[32] } : ByteArray).size = 1 := rfl
      rw [HX.out]
      go_enter Try.func26, Try.ntmps26
      go_wp2_with (go_at_call 26; refine (rtext_any N b W col nest bg true out ⟨#[32]⟩ 0 none 0 0 _ HT.out HO.out hn (by omega) (by omega) ⟨1, Bk.gd_one 32 (by decide)⟩).mono ?_; rintro e w1 ⟨rfl, h1, h2⟩; have H1 := Lib.hid h1; have H2 := Lib.hid h2; clear h1 h2)
      go_end0
      exact ⟨rfl, H1.out, (RStay.of_below HB.out HLT.out.1 HLT.out.2).trans H2.out⟩
    | false =>
      have HX : Hid (Bk.nodeF W 2 t n kids nest false ⟨out, col, bg⟩ = ⟨out ++ ⟨#[10]⟩, 0, false⟩) := Lib.hid rfl
      rw [HX.out]
      go_enter Try.func26, Try.ntmps26
      go_wp2_with (go_at_call 33; refine (rfeed_any N b W col bg out _ HT.out (by omega)).mono ?_; rintro e w1 ⟨rfl, h1, h2⟩; have H1 := Lib.hid h1; have H2 := Lib.hid h2; clear h1 h2)
      go_end0
      exact ⟨rfl, H1.out, (RStay.of_below HB.out HLT.out.1 HLT.out.2).trans H2.out⟩
  · have HB := Lib.hid ((Below.refl w.heap.size w).alloc (Nat.le_refl _) (.cells #[.int .i64 3, .string t, .int .i64 n, .slice a L cp] 26))
    have HT := Lib.hid (hT.below HB.out)
    clear hT
    cases fl with
    | true =>
      have HX : Hid (Bk.nodeF W 3 t n kids nest true ⟨out, col, bg⟩ = ⟨out, col, bg⟩) := Lib.hid rfl
      rw [HX.out]
      go_enter Try.func26, Try.ntmps26
      go_wp2_with fail
      go_end0
      exact ⟨rfl, HT.out, RStay.of_below HB.out HLT.out.1 HLT.out.2⟩
    | false =>
      have HX : Hid (Bk.nodeF W 3 t n kids nest false ⟨out, col, bg⟩ = ⟨out ++ ⟨#[10]⟩, 0, false⟩) := Lib.hid rfl
      rw [HX.out]
      go_enter Try.func26, Try.ntmps26
      go_wp2_with (go_at_call 33; refine (rfeed_any N b W col bg out _ HT.out (by omega)).mono ?_; rintro e w1 ⟨rfl, h1, h2⟩; have H1 := Lib.hid h1; have H2 := Lib.hid h2; clear h1 h2)
      go_end0
      exact ⟨rfl, H1.out, (RStay.of_below HB.out HLT.out.1 HLT.out.2).trans H2.out⟩
  · have HB := Lib.hid ((Below.refl w.heap.size w).alloc (Nat.le_refl _) (.cells #[.int .i64 4, .string t, .int .i64 n, .slice a L cp] 26))
    have HT := Lib.hid (hT.below HB.out)
    clear hT
    have HX : Hid (Bk.nodeF W 4 t n kids nest fl ⟨out, col, bg⟩ = ⟨out ++ ⟨#[10]⟩, 0, false⟩) := Lib.hid rfl
    rw [HX.out]
    go_enter Try.func26, Try.ntmps26
    go_wp2_with (go_at_call 33; refine (rfeed_any N b W col bg out _ HT.out (by omega)).mono ?_; rintro e w1 ⟨rfl, h1, h2⟩; have H1 := Lib.hid h1; have H2 := Lib.hid h2; clear h1 h2)
    go_end0
    exact ⟨rfl, H1.out, (RStay.of_below HB.out HLT.out.1 HLT.out.2).trans H2.out⟩
end Go.Proofs.Ythkpoiideiimaaa
