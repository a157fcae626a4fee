/- Wide of package layo, fits: contracts. -/
import Derived.Test.YthkpoiideiimaaaLay7
namespace Go.Proofs.Ythkpoiideiimaaa
open Go Go.RowKit Go.PlainAid
set_option linter.unusedVariables false
open Bk (Fo)
theorem wide_all : ∀ (F : Fo), Bk.GoodF F → Bk.costF F ≤ 100000000 → WideAll F
  | .nil, _, _ => trivial
  | .cons k t n kids rest, hG, hc => by
    have hc' : t.size + 1 + Bk.costF kids + Bk.costF rest ≤ 100000000 := hc
    exact ⟨fun _ => wide68_any kids hG.2.2.2.2.2.1 (wide_all kids hG.2.2.2.2.2.1 (by omega)) (by omega), wide_all rest hG.2.2.2.2.2.2 (by omega)⟩
theorem wideC_any (F : Fo) (hG : Bk.GoodF F) (hc : Bk.costF F ≤ 100000000) : WideC F := wide68_any F hG (wide_all F hG hc) hc
theorem wideC_at (F : Fo) (hW : WideC F) (a : Option Addr) (cp : Nat) (nest : Int) (g : Bool) (w : World) (L : Nat) (v : Option Nat) (hL : F.len = L) (hv : Bk.widF F = v) (hp : PSl w (fun _ => True) F a) :
    Calls Try.prog 68 #[.agg #[.int .i64 nest, .bool g, .slice a L cp]] w fun e w' => e = .returned (.tuple #[.int .i64 (v.getD 0 : Nat), .bool v.isSome]) ∧ Below w.heap.size w w' := by
  subst hL hv; exact hW a cp nest g w hp
theorem pcv1 {F : Option Addr → Prop} {t : ByteArray} {n : Int} {len : Nat} {v : Value} (h : PcV F 1 t n len v) : v = .iface 63 (.string t) := by
  rcases h with ⟨_, h⟩ | ⟨h, _⟩ | ⟨h, _⟩ | ⟨h, _⟩ | ⟨h, _⟩
  · exact h
  all_goals omega
theorem pcv2 {F : Option Addr → Prop} {t : ByteArray} {n : Int} {len : Nat} {v : Value} (h : PcV F 2 t n len v) : v = .iface 65 (.agg #[.string ⟨#[32]⟩]) := by
  rcases h with ⟨h, _⟩ | ⟨_, h⟩ | ⟨h, _⟩ | ⟨h, _⟩ | ⟨h, _⟩
  · omega
  · exact h
  all_goals omega
theorem pcv3 {F : Option Addr → Prop} {t : ByteArray} {n : Int} {len : Nat} {v : Value} (h : PcV F 3 t n len v) : v = .iface 65 (.agg #[.string ⟨#[]⟩]) := by
  rcases h with ⟨h, _⟩ | ⟨h, _⟩ | ⟨_, h⟩ | ⟨h, _⟩ | ⟨h, _⟩
  · omega
  · omega
  · exact h
  all_goals omega
theorem pcv4 {F : Option Addr → Prop} {t : ByteArray} {n : Int} {len : Nat} {v : Value} (h : PcV F 4 t n len v) : v = .iface 67 (.agg #[]) := by
  rcases h with ⟨h, _⟩ | ⟨h, _⟩ | ⟨h, _⟩ | ⟨_, h⟩ | ⟨h, _⟩
  · omega
  · omega
  · omega
  · exact h
  · omega
theorem pcv5 {F : Option Addr → Prop} {k : Int} {t : ByteArray} {n : Int} {len : Nat} {v : Value} (hk : 5 ≤ k) (h : PcV F k t n len v) :
    ∃ a cp, v = .iface 71 (.agg #[.int .i64 (if k = 6 then Bk.clampN n else 0), .bool (k == 7), .slice a len cp]) ∧ F a := by
  rcases h with ⟨h, _⟩ | ⟨h, _⟩ | ⟨h, _⟩ | ⟨h, _⟩ | ⟨_, h⟩
  · omega
  · omega
  · omega
  · omega
  · exact h
/-- What Wide hands back. -/
def WidePost (r : Option Nat) (w : World) (e : Ending) (w' : World) : Prop := e = .returned (.tuple #[.int .i64 (r.getD 0 : Nat), .bool r.isSome]) ∧ Below w.heap.size w w'
set_option maxRecDepth 20000 in
set_option maxHeartbeats 6400000 in
theorem wide12_any (k n : Int) (t : ByteArray) (kids : Fo) (a : Option Addr) (cp : Nat) (w : World) (hk : 1 ≤ k ∧ k ≤ 7) (hn : 0 ≤ n ∧ n ≤ 10000) (hs : SlAt w (fun _ => True) a kids)
    (hG : Bk.GoodF kids) (hS : Bk.ShortF kids) (hl : kids.len ≤ 1000000) (hc : Bk.costF kids ≤ 100000000) (ht : t.size ≤ 100000000) :
    Calls Try.prog 12 #[.agg #[.int .i64 k, .string t, .int .i64 n, .slice a kids.len cp]] w (WidePost (Bk.nodeW k t kids) w) := by
  have HOF0 := (fun w' (hb : Below w.heap.size w w') => of_any k n t kids a cp w' hk hn (hs.below hb) (fun _ => kids_any kids hG (kids_all kids hG hS) hl))
  have hwc := wideC_any kids hG hc
  have HWK0 : 5 ≤ k → Bk.nodeW k t kids = Bk.widF kids := fun h => by
    unfold Bk.nodeW
    rw [if_neg (by omega), if_neg (by omega), if_neg (by omega), if_neg (by omega), if_pos (by omega)]
  obtain ⟨L, hL⟩ : ∃ L, kids.len = L := ⟨_, rfl⟩
  rw [hL] at HOF0 ⊢
  have HB0 := (Below.refl w.heap.size w).alloc (Nat.le_refl _) (.cells #[.int .i64 k, .string t, .int .i64 n, .slice a L cp] 26)
  have HL := Lib.hid hL
  clear hs hG hS hl hc hn hL
  rcases (by omega : k = 1 ∨ k = 2 ∨ k = 3 ∨ k = 4 ∨ 5 ≤ k) with rfl | rfl | rfl | rfl | hk5
  · have HOF := Lib.hid HOF0
    have HB := Lib.hid HB0
    clear HOF0 HB0 HWK0
    go_enter Try.func12, Try.ntmps12
    go_wp2_with first
      | (go_at_call 22; refine (HOF.out _ HB.out).mono ?_; rintro e w2 ⟨v, rfl, hp, hg⟩; have HG := Lib.hid hg; have hv := pcv1 hp; subst hv; clear hg hp)
      | (go_at_call 65; refine (wide65_any _ _ ht).mono ?_; rintro e w3 ⟨rfl, hg⟩; have HG3 := Lib.hid hg; clear hg)
    go_ret2
    exact ⟨rfl, HB.out.trans ((HG.out.trans (HG3.out.mono HG.out.size)).mono (by simp))⟩
  · have HOF := Lib.hid HOF0
    have HB := Lib.hid HB0
    clear HOF0 HB0 HWK0
    go_enter Try.func12, Try.ntmps12
    go_wp2_with first
      | (go_at_call 22; refine (HOF.out _ HB.out).mono ?_; rintro e w2 ⟨v, rfl, hp, hg⟩; have HG := Lib.hid hg; have hv := pcv2 hp; subst hv; clear hg hp)
      | (go_at_call 66; refine (wide66_any _ _ (by decide)).mono ?_; rintro e w3 ⟨rfl, hg⟩; have HG3 := Lib.hid hg; clear hg)
    go_ret2
    exact ⟨rfl, HB.out.trans ((HG.out.trans (HG3.out.mono HG.out.size)).mono (by simp))⟩
  · have HOF := Lib.hid HOF0
    have HB := Lib.hid HB0
    clear HOF0 HB0 HWK0
    go_enter Try.func12, Try.ntmps12
    go_wp2_with first
      | (go_at_call 22; refine (HOF.out _ HB.out).mono ?_; rintro e w2 ⟨v, rfl, hp, hg⟩; have HG := Lib.hid hg; have hv := pcv3 hp; subst hv; clear hg hp)
      | (go_at_call 66; refine (wide66_any _ _ (by decide)).mono ?_; rintro e w3 ⟨rfl, hg⟩; have HG3 := Lib.hid hg; clear hg)
    go_ret2
    exact ⟨rfl, HB.out.trans ((HG.out.trans (HG3.out.mono HG.out.size)).mono (by simp))⟩
  · have HOF := Lib.hid HOF0
    have HB := Lib.hid HB0
    clear HOF0 HB0 HWK0
    go_enter Try.func12, Try.ntmps12
    go_wp2_with first
      | (go_at_call 22; refine (HOF.out _ HB.out).mono ?_; rintro e w2 ⟨v, rfl, hp, hg⟩; have HG := Lib.hid hg; have hv := pcv4 hp; subst hv; clear hg hp)
      | (go_at_call 67; refine (wide67_any _).mono ?_; rintro e w3 ⟨rfl, hg⟩; have HG3 := Lib.hid hg; clear hg)
    go_ret2
    exact ⟨rfl, HB.out.trans ((HG.out.trans (HG3.out.mono HG.out.size)).mono (by simp))⟩
  · have HOF := Lib.hid HOF0
    have HB := Lib.hid HB0
    have HWK := Lib.hid (HWK0 hk5)
    have HWC := Lib.hid hwc
    clear HOF0 HB0 HWK0 hwc
    obtain ⟨r, hr⟩ : ∃ r, Bk.nodeW k t kids = r := ⟨_, rfl⟩
    rw [hr]
    have HR : Hid (Bk.widF kids = r) := Lib.hid (HWK.out.symm.trans hr)
    clear hr HWK
    go_enter Try.func12, Try.ntmps12
    go_wp2_with first
      | (go_at_call 22; refine (HOF.out _ HB.out).mono ?_; rintro e w2 ⟨v, rfl, hp, hg⟩; have HG := Lib.hid hg; obtain ⟨a2, cp2, hv, hps⟩ := pcv5 hk5 hp; rw [HL.out] at hv; generalize (if k = 6 then Bk.clampN n else 0) = nv at hv; generalize (k == 7) = gv at hv; subst hv; have HPS : Hid (PSl w2 (fun _ => True) kids a2) := Lib.hid (hps.weak (fun _ _ _ => trivial)); clear hg hp hps)
      | (go_at_call 68; refine (wideC_at kids HWC.out a2 cp2 _ _ _ L r HL.out HR.out HPS.out).mono ?_; rintro e w3 ⟨rfl, hg⟩; have HG3 := Lib.hid hg; clear hg)
    go_ret2
    exact ⟨rfl, HB.out.trans ((HG.out.trans (HG3.out.mono HG.out.size)).mono (by simp))⟩
end Go.Proofs.Ythkpoiideiimaaa
