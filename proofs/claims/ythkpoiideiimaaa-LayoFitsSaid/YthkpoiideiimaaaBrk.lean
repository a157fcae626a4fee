/- breaks: contract. -/
import Derived.Test.YthkpoiideiimaaaGrows
namespace Go.Proofs.Ythkpoiideiimaaa
open Go Go.RowKit Go.PlainAid
set_option linter.unusedVariables false
open Bk (Fo)
def Bk.isRow (k : Int) : Nat := if k = 2 ∨ k = 3 ∨ k = 4 then 1 else 0
theorem Bk.br_cost : ∀ F : Fo, Bk.brF F ≤ Bk.costF F
  | .nil => Nat.le_refl _
  | .cons k t n kids rest => by
    have h1 := Bk.br_cost kids
    have h2 := Bk.br_cost rest
    simp only [Bk.brF, Bk.costF]
    split
    · omega
    · split <;> omega
def BrN (k : Int) (kids : Fo) : Prop := ∀ (t : ByteArray) (n : Int) (a : Option Addr) (cp : Nat) (w : World), SlAt w (fun _ => True) a kids →
  Calls Try.prog 19 #[.agg #[.int .i64 k, .string t, .int .i64 n, .slice a kids.len cp]] w fun e w' => e = .returned (.int .i64 ((Bk.isRow k + Bk.brF kids : Nat) : Int)) ∧ Below w.heap.size w w'
def BrAll : Fo → Prop
  | .nil => True
  | .cons k t n kids rest => BrN k kids ∧ BrAll rest
theorem brAll_app : ∀ {P Q : Fo}, BrAll (P.app Q) → BrAll Q
  | .nil, Q, h => h
  | .cons _ _ _ _ r, Q, h => brAll_app (P := r) h.2
set_option maxRecDepth 100000 in
set_option maxHeartbeats 8000000 in
theorem breaks_one (k : Int) (F : Fo) (hA : BrAll F) (hc : Bk.costF F ≤ 100000) : BrN k F := by
  intro t n a cp w hs
  obtain ⟨L, hL⟩ : ∃ L, L = F.len := ⟨_, rfl⟩
  have hlen : L ≤ 100000 := by have := Bk.len_cost F; omega
  obtain ⟨M, hM⟩ : ∃ M, M = Bk.costF F := ⟨_, rfl⟩
  rw [← hM] at hc
  rw [← hL]
  obtain ⟨r, hr⟩ : ∃ r, r = Bk.isRow k := ⟨_, rfl⟩
  rw [← hr]
  have hr1 : r ≤ 1 := by rw [hr]; unfold Bk.isRow; split <;> omega
  obtain ⟨T, hT⟩ : ∃ T : Nat, T = r + Bk.brF F := ⟨_, rfl⟩
  rw [← hT]
  have hway : (r = 1 ∧ (k = 2 ∨ k = 3 ∨ k = 4)) ∨ (r = 0 ∧ (k == 2) = false ∧ (k == 3) = false ∧ (k == 4) = false) := by
    rw [hr]; unfold Bk.isRow
    by_cases h : k = 2 ∨ k = 3 ∨ k = 4
    · rw [if_pos h]; exact .inl ⟨rfl, h⟩
    · rw [if_neg h]; exact .inr ⟨rfl, by simp; omega, by simp; omega, by simp; omega⟩
  have HL := Lib.hid hL
  have HM := Lib.hid hM
  have HT := Lib.hid hT
  have HS := Lib.hid hs
  have HA := Lib.hid hA
  have HX := Lib.hid (lbox_new w k t n (.slice a L cp))
  have HB := Lib.hid ((Below.refl w.heap.size w).alloc (Nat.le_refl _) (.cells #[.int .i64 k, .string t, .int .i64 n, .slice a L cp] 26))
  clear hs hL hM hr hT hA
  rcases hway with ⟨rfl, rfl | rfl | rfl⟩ | ⟨rfl, hk2, hk3, hk4⟩
  all_goals
    go_enter Try.func19, Try.ntmps19
    go_wp2_with fail
    go_loopw [3, 4] (fun nv iv wr => ∃ (P Q : Fo) (acc : Nat), P.len ≤ L ∧ iv = .int .i64 P.len ∧ nv = .int .i64 acc ∧ acc + Bk.costF Q ≤ M + 1 ∧ Hid (F = P.app Q) ∧ Hid (T = acc + Bk.brF Q) ∧ Hid (Below w.heap.size w wr) ∧ Hid (LBox wr w.heap.size _ t n (.slice a L cp))) (fun _ iv _ => L - (intOf iv).toNat)
    case atStart => first | exact ⟨.nil, F, 1, by show (0 : Nat) ≤ _; omega, rfl, rfl, by rw [HM.out]; omega, Lib.hid rfl, HT, HB, HX⟩ | exact ⟨.nil, F, 0, by show (0 : Nat) ≤ _; omega, rfl, rfl, by rw [HM.out]; omega, Lib.hid rfl, HT, HB, HX⟩
    case round =>
      obtain ⟨P, Q, acc, hPL, rfl, rfl, hacc, HF, HQ, HW, HBX⟩ := hrel
      obtain ⟨hbl, x0, x1, x2, x3⟩ := HBX.out
      have HBL := Lib.hid hbl
      clear hbl
      cases Q with
      | nil =>
        have HE : Hid (T = acc) := Lib.hid (by rw [HQ.out]; rfl)
        have hPl : P.len = L := by rw [HL.out, HF.out, Fo.app_nil]
        obtain ⟨m, hm⟩ : ∃ m, m = P.len := ⟨_, rfl⟩
        rw [← hm] at hPL hPl ⊢
        have hml : ¬ m < L := by omega
        clear hPl hm
        go_wp2_with fail
        go_ret
        exact ⟨ret_int (by rw [HE.out]), HW.out⟩
      | cons kd tt nn kids Q =>
        have hlt : P.len < L := by
          have h1 := congrArg Fo.len HF.out
          rw [Fo.app_len, ← HL.out] at h1
          simp only [Fo.len] at h1
          omega
        rcases HS.out with h0 | ⟨b, off, rfl, hb, _, hr⟩
        · have := HL.out; omega
        rw [HF.out] at hr
        obtain ⟨c0, c1, c2, ⟨a3, cp3, c3, hk3⟩, hrest⟩ := row_app hr
        clear hrest
        have hcell : ∀ o, wr.cell? ⟨b, o, none⟩ = w.cell? ⟨b, o, none⟩ := fun o => HW.out.cell (p := ⟨b, o, none⟩) hb
        rw [← hcell] at c0 c1 c2 c3
        clear hcell hr
        have hga := brAll_app (P := P) (Q := .cons kd tt nn kids Q) (by have := HA.out; rw [HF.out] at this; exact this)
        have HBN := Lib.hid hga.1
        have HSK : Hid (SlAt wr (fun _ => True) a3 kids) := Lib.hid (SlAt.below hk3 HW.out)
        have hbc := Bk.br_cost kids
        simp only [Bk.costF] at hacc
        have HF2 : Hid (F = (P.app (.cons kd tt nn kids .nil)).app Q) := Lib.hid (by rw [HF.out, Fo.app_assoc]; rfl)
        have HPL : Hid ((P.app (.cons kd tt nn kids .nil)).len = P.len + 1) := Lib.hid (by rw [Fo.app_len]; rfl)
        have hr1 : Bk.isRow kd ≤ 1 := by unfold Bk.isRow; split <;> omega
        by_cases hk7 : kd = 7
        · have HQ2 : Hid (T = acc + Bk.brF Q) := Lib.hid (by rw [HQ.out, Bk.brF, if_pos hk7]; omega)
          clear hga hk3 hb
          subst hk7
          go_wp2_with fail
          go_roundw
          case rel => exact ⟨_, Q, acc, by rw [HPL.out]; omega, by rw [HPL.out]; go_num, rfl, by omega, HF2, HQ2, HW, HBX⟩
          case measure => simp [intOf]; omega
        · have HQ2 : Hid (T = acc + (Bk.isRow kd + Bk.brF kids) + Bk.brF Q) := Lib.hid (by rw [HQ.out, Bk.brF, if_neg hk7]; unfold Bk.isRow; omega)
          have hk7b : (kd == 7) = false := by simp [hk7]
          have hk7c : (kd != 7) = true := by simp [hk7]
          clear hga hk3 hb hk7
          obtain ⟨bb, hbb⟩ : ∃ bb, bb = Bk.isRow kd + Bk.brF kids := ⟨_, rfl⟩
          rw [← hbb] at HQ2
          have hbb2 : bb ≤ Bk.costF kids + 1 := by omega
          have HBB := Lib.hid hbb
          clear hbb
          go_wp2_with (go_at_call 19; refine (HBN.out tt nn a3 cp3 _ HSK.out).mono ?_; rintro e w2 ⟨rfl, hg⟩; rw [← HBB.out]; have HW2 := Lib.hid (HW.out.trans (hg.mono HW.out.size)); have HBX2 := Lib.hid (HBX.out.below hg); clear hg)
          go_roundw
          case rel => exact ⟨_, Q, acc + bb, by rw [HPL.out]; omega, by rw [HPL.out]; go_num, by go_num, by omega, HF2, HQ2, HW2, HBX2⟩
          case measure => simp [intOf]; omega
theorem br_all : ∀ F : Fo, Bk.costF F ≤ 100000 → BrAll F
  | .nil, _ => trivial
  | .cons k t n kids rest, hc => by
    have hc' : t.size + 1 + Bk.costF kids + Bk.costF rest ≤ 100000 := hc
    exact ⟨breaks_one k kids (br_all kids (by omega)) (by omega), br_all rest (by omega)⟩
theorem breaks_any (k n : Int) (t : ByteArray) (F : Fo) (a : Option Addr) (cp L : Nat) (w : World) (hL : F.len = L) (hs : SlAt w (fun _ => True) a F) (hc : Bk.costF F ≤ 100000) :
    Calls Try.prog 19 #[.agg #[.int .i64 k, .string t, .int .i64 n, .slice a L cp]] w fun e w' => e = .returned (.int .i64 ((Bk.isRow k + Bk.brF F : Nat) : Int)) ∧ Below w.heap.size w w' := by
  subst hL
  exact breaks_one k F (br_all F hc) hc t n a cp w hs
end Go.Proofs.Ythkpoiideiimaaa
