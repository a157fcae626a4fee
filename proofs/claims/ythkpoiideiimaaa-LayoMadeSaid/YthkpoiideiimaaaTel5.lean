/- The teller of package layo: tell: contract. -/
import Derived.Test.YthkpoiideiimaaaTel4
namespace Go.Proofs.Ythkpoiideiimaaa
open Go Go.RowKit Go.PlainAid
set_option linter.unusedVariables false
open Bk (Fo)
theorem Try.as63_63 (v : Value) (w : World) : (Instr.typeAssert (.iface 63 v) 45 63 true).run Try.prog w = .ok (.tuple #[v, .bool true]) w := by kernel_rfl
theorem Try.as65_63 (v : Value) (w : World) : (Instr.typeAssert (.iface 65 v) 45 63 true).run Try.prog w = .ok (.tuple #[.string ByteArray.empty, .bool false]) w := by kernel_rfl
theorem Try.as65_65 (v : Value) (w : World) : (Instr.typeAssert (.iface 65 v) 45 65 true).run Try.prog w = .ok (.tuple #[v, .bool true]) w := by kernel_rfl
theorem Try.as65_71 (v : Value) (w : World) : (Instr.typeAssert (.iface 65 v) 45 71 true).run Try.prog w = .ok (.tuple #[.agg #[.int .i64 0, .bool false, .slice none 0 0], .bool false]) w := by kernel_rfl
theorem Try.as67_63 (v : Value) (w : World) : (Instr.typeAssert (.iface 67 v) 45 63 true).run Try.prog w = .ok (.tuple #[.string ByteArray.empty, .bool false]) w := by kernel_rfl
theorem Try.as67_65 (v : Value) (w : World) : (Instr.typeAssert (.iface 67 v) 45 65 true).run Try.prog w = .ok (.tuple #[.agg #[.string ByteArray.empty], .bool false]) w := by kernel_rfl
theorem Try.as67_71 (v : Value) (w : World) : (Instr.typeAssert (.iface 67 v) 45 71 true).run Try.prog w = .ok (.tuple #[.agg #[.int .i64 0, .bool false, .slice none 0 0], .bool false]) w := by kernel_rfl
theorem Try.as71_63 (v : Value) (w : World) : (Instr.typeAssert (.iface 71 v) 45 63 true).run Try.prog w = .ok (.tuple #[.string ByteArray.empty, .bool false]) w := by kernel_rfl
theorem Try.as71_65 (v : Value) (w : World) : (Instr.typeAssert (.iface 71 v) 45 65 true).run Try.prog w = .ok (.tuple #[.agg #[.string ByteArray.empty], .bool false]) w := by kernel_rfl
theorem Try.as71_71 (v : Value) (w : World) : (Instr.typeAssert (.iface 71 v) 45 71 true).run Try.prog w = .ok (.tuple #[v, .bool true]) w := by kernel_rfl
/-- How a piece is told. -/
def TellN (k : Int) (t : ByteArray) (n : Int) (kids : Fo) : Prop :=
  ∀ (N b : Nat) (W col nest : Int) (bg fl : Bool) (out : ByteArray) (v : Value) (w : World), TlAt N b W ⟨out, col, bg⟩ w → PcV (PSl w (fun i => i < N ∧ i ≠ b) kids) k t n kids.len v → Bk.Okd ⟨out, col, bg⟩ →
    0 ≤ nest → nest + (Bk.clampN n).toNat + Bk.nstF kids ≤ 1000 → out.size + 1001 * (t.size + 1 + Bk.costF kids) ≤ 99000000 → 0 ≤ W ∧ W ≤ 9223372036854775807 →
    Calls Try.prog 24 #[.pointer (some ⟨b, 0, none⟩), v, .int .i64 nest, .bool fl] w (TelPost N b W (Bk.nodeF W k t n kids nest fl ⟨out, col, bg⟩) w)
def TellAll : Fo → Prop
  | .nil => True
  | .cons k t n kids rest => TellN k t n kids ∧ TellAll rest
theorem tellAll_app : ∀ {P Q : Fo}, TellAll (P.app Q) → TellAll Q
  | .nil, Q, h => h
  | .cons _ _ _ _ r, Q, h => tellAll_app (P := r) h.2
theorem TelPost.to {N b : Nat} {W : Int} {st st' : Bk.St} {w : World} {e : Ending} {w' : World} (h : TelPost N b W st w e w') (hs : st = st') : TelPost N b W st' w e w' := hs ▸ h
theorem TelPost.from {N b : Nat} {W : Int} {st : Bk.St} {w w1 : World} {e : Ending} {w' : World} (h : TelPost N b W st w1 e w') (k : Stay N b w w1) : TelPost N b W st w e w' := ⟨h.1, h.2.1, k.trans h.2.2⟩
set_option maxRecDepth 100000 in
set_option maxHeartbeats 4000000 in
theorem tell_leaf (k n : Int) (t : ByteArray) (kids : Fo) (hk : 1 ≤ k ∧ k ≤ 4) : TellN k t n kids := by
  intro N b W col nest bg fl out v w hT hv hO hn hm hz hW
  have HT := Lib.hid hT
  have HO := Lib.hid hO
  have hlt := hT.lt
  have HLT := Lib.hid hlt
  clear hT hO hlt
  rcases (by omega : k = 1 ∨ k = 2 ∨ k = 3 ∨ k = 4) with rfl | rfl | rfl | rfl
  · obtain rfl := pcv1 hv
    have a63 := Try.as63_63
    have HX : Hid (Bk.nodeF W 1 t n kids nest fl ⟨out, col, bg⟩ = Bk.txtS ⟨out, col, bg⟩ t nest) := Lib.hid rfl
    rw [HX.out]
    clear hv
    go_enter Try.func24, Try.ntmps24
    go_wp2_with (go_at_call 30; refine (text_tel N b W col nest bg out t _ HT.out HO.out hn (by omega) (by omega)).mono ?_; rintro e w1 ⟨rfl, h1, h2⟩; have H1 := Lib.hid h1; have H2 := Lib.hid h2; clear h1 h2)
    go_end0
    exact ⟨rfl, H1.out, H2.out⟩
  · obtain rfl := pcv2 hv
    have a63 := Try.as65_63
    have a65 := Try.as65_65
    have a71 := Try.as65_71
    have q1 : ({ data := #[32] } : ByteArray).size = 1 := rfl
    have HA := Lib.hid ((Below.refl w.heap.size w).alloc (Nat.le_refl _) (.cells #[.string ⟨#[32]⟩] 65))
    clear hv
    cases fl with
    | true =>
      have HX : Hid (Bk.nodeF W 2 t n kids nest true ⟨out, col, bg⟩ = Bk.txtS ⟨out, col, bg⟩ ⟨#[32]⟩ nest) := Lib.hid rfl
      rw [HX.out]
      go_enter Try.func24, Try.ntmps24
      go_wp2_with (go_at_call 30; refine (text_tel N b W col nest bg out _ _ (HT.out.below HA.out) HO.out hn (by omega) (by omega)).mono ?_; rintro e w1 ⟨rfl, h1, h2⟩; have H1 := Lib.hid h1; have H2 := Lib.hid h2; clear h1 h2)
      go_end0
      exact ⟨rfl, H1.out, (Stay.of_below HA.out HLT.out.1 HLT.out.2).trans H2.out⟩
    | false =>
      have HX : Hid (Bk.nodeF W 2 t n kids nest false ⟨out, col, bg⟩ = ⟨out ++ ⟨#[10]⟩, 0, false⟩) := Lib.hid rfl
      rw [HX.out]
      go_enter Try.func24, Try.ntmps24
      go_wp2_with (go_at_call 31; refine (feed_tel N b W col bg out _ (HT.out.below ((Below.refl _ _).alloc (Nat.le_refl _) _ |>.alloc (by simp) _)) (by omega)).mono ?_; rintro e w1 ⟨rfl, h1, h2⟩; have H1 := Lib.hid h1; have H2 := Lib.hid h2; clear h1 h2)
      go_end0
      exact ⟨rfl, H1.out, (Stay.of_below ((Below.refl _ _).alloc (Nat.le_refl _) _ |>.alloc (by simp) _) HLT.out.1 HLT.out.2).trans H2.out⟩
  · obtain rfl := pcv3 hv
    have a63 := Try.as65_63
    have a65 := Try.as65_65
    have a71 := Try.as65_71
    have q1 : ({ data := #[] } : ByteArray).size = 0 := rfl
    have HA := Lib.hid ((Below.refl w.heap.size w).alloc (Nat.le_refl _) (.cells #[.string ⟨#[]⟩] 65))
    clear hv
    cases fl with
    | true =>
      have HX : Hid (Bk.nodeF W 3 t n kids nest true ⟨out, col, bg⟩ = ⟨out, col, bg⟩) := Lib.hid rfl
      rw [HX.out]
      go_enter Try.func24, Try.ntmps24
      go_wp2_with (go_at_call 30; refine (text_none N b W col nest bg out _ _ (HT.out.below HA.out) rfl).mono ?_; rintro e w1 ⟨rfl, h1, h2⟩; have H1 := Lib.hid h1; have H2 := Lib.hid h2; clear h1 h2)
      go_end0
      exact ⟨rfl, H1.out, (Stay.of_below HA.out HLT.out.1 HLT.out.2).trans H2.out⟩
    | false =>
      have HX : Hid (Bk.nodeF W 3 t n kids nest false ⟨out, col, bg⟩ = ⟨out ++ ⟨#[10]⟩, 0, false⟩) := Lib.hid rfl
      rw [HX.out]
      go_enter Try.func24, Try.ntmps24
      go_wp2_with (go_at_call 31; refine (feed_tel N b W col bg out _ (HT.out.below ((Below.refl _ _).alloc (Nat.le_refl _) _ |>.alloc (by simp) _)) (by omega)).mono ?_; rintro e w1 ⟨rfl, h1, h2⟩; have H1 := Lib.hid h1; have H2 := Lib.hid h2; clear h1 h2)
      go_end0
      exact ⟨rfl, H1.out, (Stay.of_below ((Below.refl _ _).alloc (Nat.le_refl _) _ |>.alloc (by simp) _) HLT.out.1 HLT.out.2).trans H2.out⟩
  · obtain rfl := pcv4 hv
    have a63 := Try.as67_63
    have a65 := Try.as67_65
    have a71 := Try.as67_71
    have HX : Hid (Bk.nodeF W 4 t n kids nest fl ⟨out, col, bg⟩ = ⟨out ++ ⟨#[10]⟩, 0, false⟩) := Lib.hid rfl
    rw [HX.out]
    clear hv
    go_enter Try.func24, Try.ntmps24
    go_wp2_with (go_at_call 31; refine (feed_tel N b W col bg out _ (HT.out.below ((Below.refl _ _).alloc (Nat.le_refl _) _ |>.alloc (by simp) _)) (by omega)).mono ?_; rintro e w1 ⟨rfl, h1, h2⟩; have H1 := Lib.hid h1; have H2 := Lib.hid h2; clear h1 h2)
    go_end0
    exact ⟨rfl, H1.out, (Stay.of_below ((Below.refl _ _).alloc (Nat.le_refl _) _ |>.alloc (by simp) _) HLT.out.1 HLT.out.2).trans H2.out⟩
end Go.Proofs.Ythkpoiideiimaaa
