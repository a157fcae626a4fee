/- Wide of the reference: contract. -/
import Derived.Test.YthkpoiideiimaaaRef1
import Derived.Test.YthkpoiideiimaaaGrows
namespace Go.Proofs.Ythkpoiideiimaaa
open Go Go.RowKit Go.PlainAid
set_option linter.unusedVariables false
open Bk (Fo)
def RwN (k : Int) (t : ByteArray) (kids : Fo) : Prop := ∀ (n : Int) (a : Option Addr) (cp : Nat) (w : World), SlAt w (fun _ => True) a kids →
  Calls Try.prog 13 #[.agg #[.int .i64 k, .string t, .int .i64 n, .slice a kids.len cp]] w (WidePost (Bk.nodeW k t kids) w)
def RwAll : Fo → Prop
  | .nil => True
  | .cons k t n kids rest => RwN k t kids ∧ RwAll rest
theorem rwAll_app : ∀ {P Q : Fo}, RwAll (P.app Q) → RwAll Q
  | .nil, Q, h => h
  | .cons _ _ _ _ r, Q, h => rwAll_app (P := r) h.2
set_option maxRecDepth 100000 in
set_option maxHeartbeats 4000000 in
theorem rwide_leaf (k : Int) (t : ByteArray) (F : Fo) (hk : 1 ≤ k ∧ k ≤ 4) (hz : t.size ≤ 100000000) (hg : ∃ m, Bk.Gd t m) : RwN k t F := by
  intro n a cp w hs
  obtain ⟨m, hg⟩ := hg
  have HG := Lib.hid hg
  clear hg hs
  obtain ⟨L, hL⟩ : ∃ L, F.len = L := ⟨_, rfl⟩
  rw [hL]
  clear hL
  have HB := Lib.hid ((Below.refl w.heap.size w).alloc (Nat.le_refl _) (.cells #[.int .i64 k, .string t, .int .i64 n, .slice a L cp] 26))
  rcases (by omega : k = 1 ∨ k = 2 ∨ k = 3 ∨ k = 4) with rfl | rfl | rfl | rfl
  · go_enter Try.func13, Try.ntmps13
    go_wp2_with (go_at_call 23; refine (width23_any t m _ hz HG.out).mono ?_; rintro e w1 ⟨rfl, hg⟩; have HH := Lib.hid (HB.out.trans (hg.mono HB.out.size)); clear hg)
    go_ret2
    exact ⟨rfl, HH.out⟩
  · go_enter Try.func13, Try.ntmps13
    go_wp2_with fail
    go_ret2
    exact ⟨rfl, HB.out⟩
  · go_enter Try.func13, Try.ntmps13
    go_wp2_with fail
    go_ret2
    exact ⟨rfl, HB.out⟩
  · go_enter Try.func13, Try.ntmps13
    go_wp2_with fail
    go_ret2
    exact ⟨rfl, HB.out⟩
set_option maxRecDepth 100000 in
set_option maxHeartbeats 8000000 in
theorem rwide_list (k : Int) (t : ByteArray) (F : Fo) (hk : k = 5 ∨ k = 6 ∨ k = 7) (hA : RwAll F) (hc : Bk.costF F ≤ 100000000) : RwN k t F := by
  intro n a cp w hs
  have hn5 : Bk.nodeW k t F = Bk.widF F := by
    unfold Bk.nodeW
    rw [if_neg (by omega), if_neg (by omega), if_neg (by omega), if_neg (by omega), if_pos (by omega)]
  rw [hn5]
  obtain ⟨L, hL⟩ : ∃ L, L = F.len := ⟨_, rfl⟩
  have hlen : L ≤ 100000000 := by have := Bk.len_cost F; omega
  obtain ⟨M, hM⟩ : ∃ M, M = Bk.costF F := ⟨_, rfl⟩
  rw [← hM] at hc
  rw [← hL]
  obtain ⟨WF, hWF⟩ : ∃ WF, WF = Bk.widF F := ⟨_, rfl⟩
  rw [← hWF]
  have HWF := Lib.hid hWF
  have HL := Lib.hid hL
  have HM := Lib.hid hM
  have HS := Lib.hid hs
  have HA := Lib.hid hA
  have HX := Lib.hid (lbox_new w k t n (.slice a L cp))
  have HB := Lib.hid ((Below.refl w.heap.size w).alloc (Nat.le_refl _) (.cells #[.int .i64 k, .string t, .int .i64 n, .slice a L cp] 26))
  clear hs hL hM hA hn5 hWF
  rcases hk with rfl | rfl | rfl
  all_goals
    go_enter Try.func13, Try.ntmps13
    go_wp2_with fail
    go_loopw [4, 5] (fun nv iv wr => ∃ (P Q : Fo) (acc : Nat), P.len ≤ L ∧ iv = .int .i64 P.len ∧ nv = .int .i64 acc ∧ acc + Bk.costF Q ≤ M ∧ Hid (F = P.app Q) ∧ Hid (WF = (Bk.widF Q).map (acc + ·)) ∧ Hid (Below w.heap.size w wr) ∧ Hid (LBox wr w.heap.size _ t n (.slice a L cp))) (fun _ iv _ => L - (intOf iv).toNat)
    case atStart => exact ⟨.nil, F, 0, by simp [Fo.len], rfl, rfl, by rw [HM.out]; omega, Lib.hid rfl, Lib.hid (by rw [HWF.out]; cases Bk.widF F <;> simp), HB, HX⟩
    case round =>
      obtain ⟨P, Q, acc, hPL, rfl, rfl, hacc, HF, HQ, HW, HBX⟩ := hrel
      obtain ⟨hbl, x0, x1, x2, x3⟩ := HBX.out
      have HBL := Lib.hid hbl
      clear hbl
      cases Q with
      | nil =>
        have hPl : P.len = L := by rw [HL.out, HF.out, Fo.app_nil]
        have hq : WF = some acc := by rw [HQ.out]; rfl
        have HE := Lib.hid hq
        obtain ⟨m, hm⟩ : ∃ m, m = P.len := ⟨_, rfl⟩
        rw [← hm] at hPL hPl ⊢
        have hml : ¬ m < L := by omega
        clear hPl hm hq
        go_wp2_with fail
        go_ret2
        exact ⟨ret_wide (by rw [HE.out]; rfl) (by rw [HE.out]; rfl), HW.out⟩
      | cons kd tt nn kids Q =>
        have hlt : P.len < L := by
          have h1 := congrArg Fo.len HF.out
          rw [Fo.app_len, ← HL.out] at h1
          simp only [Fo.len] at h1
          omega
        rcases HS.out with h0 | ⟨b, off, rfl, hb, _, hr⟩
        · have := HL.out; omega
        rw [HF.out] at hr
        obtain ⟨c0, c1, c2, ⟨a3, cp3, c3, hk3⟩, hrest⟩ := row_app hr
        clear hrest
        have hcell : ∀ o, wr.cell? ⟨b, o, none⟩ = w.cell? ⟨b, o, none⟩ := fun o => HW.out.cell (p := ⟨b, o, none⟩) hb
        rw [← hcell] at c0 c1 c2 c3
        clear hcell hr
        have hga := rwAll_app (P := P) (Q := .cons kd tt nn kids Q) (by have := HA.out; rw [HF.out] at this; exact this)
        have HBN := Lib.hid hga.1
        have HSK : Hid (SlAt wr (fun _ => True) a3 kids) := Lib.hid (SlAt.below hk3 HW.out)
        simp only [Bk.costF] at hacc
        have HF2 : Hid (F = (P.app (.cons kd tt nn kids .nil)).app Q) := Lib.hid (by rw [HF.out, Fo.app_assoc]; rfl)
        have HPL : Hid ((P.app (.cons kd tt nn kids .nil)).len = P.len + 1) := Lib.hid (by rw [Fo.app_len]; rfl)
        clear hga hk3 hb
        cases hwk : Bk.nodeW kd tt kids with
        | none =>
          have HN : Hid (WF = none) := Lib.hid (by rw [HQ.out, Bk.wid_none hwk]; rfl)
          have HK := Lib.hid hwk
          clear hwk
          go_wp2_with (go_at_call 13; refine (HBN.out nn a3 cp3 _ HSK.out).mono ?_; rintro e w2 ⟨rfl, hg⟩; rw [HK.out]; have HW2 := Lib.hid (HW.out.trans (hg.mono HW.out.size)); clear hg)
          go_ret2
          exact ⟨ret_wide (by rw [HN.out]; rfl) (by rw [HN.out]; rfl), HW2.out⟩
        | some x =>
          have HN : Hid (WF = (Bk.widF Q).map (acc + x + ·)) := Lib.hid (by
            rw [HQ.out]
            cases hq : Bk.widF Q with
            | none =>
              have : Bk.widF (.cons kd tt nn kids Q) = none := by
                have h2 := hwk
                unfold Bk.nodeW at h2
                rw [Bk.widF, h2, hq]
              rw [this]; rfl
            | some y => rw [Bk.wid_put hwk hq]; show some (acc + (x + y)) = some (acc + x + y); rw [Nat.add_assoc])
          have HK := Lib.hid hwk
          have hxc : x ≤ tt.size + 1 + Bk.costF kids := by
            have := Bk.wid_cost (.cons kd tt nn kids .nil) (x + 0) (Bk.wid_put hwk rfl)
            simpa [Bk.costF] using this
          clear hwk
          go_wp2_with (go_at_call 13; refine (HBN.out nn a3 cp3 _ HSK.out).mono ?_; rintro e w2 ⟨rfl, hg⟩; rw [HK.out]; have HW2 := Lib.hid (HW.out.trans (hg.mono HW.out.size)); have HBX2 := Lib.hid (HBX.out.below hg); clear hg)
          go_roundw
          case rel => exact ⟨_, Q, acc + x, by rw [HPL.out]; omega, by rw [HPL.out]; go_num, by go_num, by omega, HF2, HN, HW2, HBX2⟩
          case measure => simp [intOf]; omega
theorem rwide_all : ∀ F : Fo, Bk.GoodF F → Bk.costF F ≤ 100000000 → RwAll F
  | .nil, _, _ => trivial
  | .cons k t n kids rest, hG, hc => by
    have hc' : t.size + 1 + Bk.costF kids + Bk.costF rest ≤ 100000000 := hc
    obtain ⟨hg, _, hk, _, _, hgk, hgr⟩ := hG
    refine ⟨?_, rwide_all rest hgr (by omega)⟩
    by_cases h4 : k ≤ 4
    · exact rwide_leaf k t kids ⟨hk.1, h4⟩ (by omega) hg
    · exact rwide_list k t kids (by omega) (rwide_all kids hgk (by omega)) (by omega)
theorem rwide_at (k n : Int) (t : ByteArray) (kids : Fo) (a : Option Addr) (cp L : Nat) (r : Option Nat) (w : World) (hL : kids.len = L) (hr : Bk.nodeW k t kids = r) (hs : SlAt w (fun _ => True) a kids) (hG : Bk.GoodF (.cons k t n kids .nil)) (hc : t.size + 1 + Bk.costF kids ≤ 100000000) :
    Calls Try.prog 13 #[.agg #[.int .i64 k, .string t, .int .i64 n, .slice a L cp]] w (WidePost r w) := by
  subst hL hr
  exact (rwide_all (.cons k t n kids .nil) hG (by simp only [Bk.costF]; omega)).1 n a cp w hs
end Go.Proofs.Ythkpoiideiimaaa
