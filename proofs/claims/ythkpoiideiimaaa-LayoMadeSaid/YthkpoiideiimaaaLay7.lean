/- The pieces' wide: contracts. -/
import Derived.Test.YthkpoiideiimaaaLay6
namespace Go.Proofs.Ythkpoiideiimaaa
open Go Go.RowKit Go.PlainAid
set_option linter.unusedVariables false
open Bk (Fo)
theorem ret_wide {a b : Int} {c d : Bool} (h : a = b) (h' : c = d) : Ending.returned (.tuple #[.int .i64 a, .bool c]) = .returned (.tuple #[.int .i64 b, .bool d]) := by rw [h, h']
set_option maxHeartbeats 800000 in
theorem wide65_any (s : ByteArray) (w : World) (hs : s.size ≤ 100000000) :
    Calls Try.prog 65 #[.string s] w fun e w' => e = .returned (.tuple #[.int .i64 (Bk.widS s : Nat), .bool true]) ∧ Below w.heap.size w w' := by
  go_enter Try.func65, Try.ntmps65
  go_wp2_with (go_at_call 17; refine (width_any _ _ hs).mono ?_; rintro e w1 ⟨rfl, hg⟩)
  go_ret2
  exact ⟨rfl, hg⟩
set_option maxHeartbeats 800000 in
theorem wide66_any (s : ByteArray) (w : World) (hs : s.size ≤ 100000000) :
    Calls Try.prog 66 #[.agg #[.string s]] w fun e w' => e = .returned (.tuple #[.int .i64 s.size, .bool true]) ∧ Below w.heap.size w w' := by
  go_enter Try.func66, Try.ntmps66
  go_wp2_with fail
  go_ret2
  exact ⟨rfl, (Below.refl _ _).alloc (Nat.le_refl _) _⟩
set_option maxHeartbeats 800000 in
theorem wide67_any (w : World) :
    Calls Try.prog 67 #[.agg #[]] w fun e w' => e = .returned (.tuple #[.int .i64 0, .bool false]) ∧ Below w.heap.size w w' := by
  go_enter Try.func67, Try.ntmps67
  go_wp2_with fail
  go_ret2
  exact ⟨rfl, (Below.refl _ _).alloc (Nat.le_refl _) _⟩
namespace Bk
/-- How much layouts have in all. -/
def costF : Fo → Nat
  | .nil => 0
  | .cons k t n kids rest => t.size + 1 + costF kids + costF rest
theorem len_cost : ∀ F : Fo, F.len ≤ costF F
  | .nil => Nat.le_refl _
  | .cons k t n kids rest => by have := len_cost rest; simp only [Fo.len, costF]; omega
theorem wid_cost : ∀ (F : Fo) (v : Nat), widF F = some v → v ≤ costF F
  | .nil, v, h => by cases h; exact Nat.le_refl _
  | .cons k t n kids rest, v, h => by
    obtain ⟨a, b, h1, h2, rfl⟩ := wid_cons h
    have hb := wid_cost rest b h2
    have ha : a ≤ t.size + 1 + costF kids := by
      have hw := widS_le t
      unfold nodeW at h1
      split at h1
      · cases h1; omega
      · split at h1
        · cases h1; omega
        · split at h1
          · cases h1; omega
          · split at h1
            · cases h1
            · split at h1
              · have := wid_cost kids a h1; omega
              · cases h1; omega
    simp only [costF]; omega
theorem cost_app : ∀ P Q : Fo, costF (P.app Q) = costF P + costF Q
  | .nil, Q => by simp [Fo.app, costF]
  | .cons k t n kids r, Q => by simp only [Fo.app, costF, cost_app r Q]; omega
end Bk
theorem prow_app {w : World} {ok : Nat → Prop} : ∀ {P Q : Fo} {b off : Nat}, PRow w ok (P.app Q) b off → PRow w ok Q b (off + P.len)
  | .nil, Q, b, off, h => by simpa [Fo.app, Fo.len] using h
  | .cons k t n kids r, Q, b, off, h => by
    have := prow_app (P := r) h.2
    rw [show off + (Fo.cons k t n kids r).len = off + 1 + r.len from by simp only [Fo.len]; omega]
    exact this
def WideC (F : Fo) : Prop := ∀ (a : Option Addr) (cp : Nat) (nest : Int) (g : Bool) (w : World), PSl w (fun _ => True) F a →
  Calls Try.prog 68 #[.agg #[.int .i64 nest, .bool g, .slice a F.len cp]] w fun e w' => e = .returned (.tuple #[.int .i64 ((Bk.widF F).getD 0 : Nat), .bool (Bk.widF F).isSome]) ∧ Below w.heap.size w w'
def WideAll : Fo → Prop
  | .nil => True
  | .cons k t n kids rest => (5 ≤ k → WideC kids) ∧ WideAll rest
theorem wideAll_app : ∀ {P Q : Fo}, WideAll (P.app Q) → WideAll Q
  | .nil, Q, h => h
  | .cons _ _ _ _ r, Q, h => wideAll_app (P := r) h.2
set_option maxRecDepth 20000 in
set_option maxHeartbeats 6400000 in
theorem wide68_any (F : Fo) (hG : Bk.GoodF F) (hA : WideAll F) (hcost : Bk.costF F ≤ 100000000) : WideC F := by
  intro a cp nest g w hs
  obtain ⟨L, hL⟩ : ∃ L, L = F.len := ⟨_, rfl⟩
  have hlen : L ≤ 100000000 := by have := Bk.len_cost F; omega
  obtain ⟨M, hM⟩ : ∃ M, M = Bk.costF F := ⟨_, rfl⟩
  rw [← hM] at hcost
  rw [← hL]
  have HL := Lib.hid hL
  have HM := Lib.hid hM
  have HS := Lib.hid hs
  have HG := Lib.hid hG
  have HA := Lib.hid hA
  clear hs hL hM hG hA
  obtain ⟨WF, hWF⟩ : ∃ WF, WF = Bk.widF F := ⟨_, rfl⟩
  rw [← hWF]
  have HWF := Lib.hid hWF
  clear hWF
  go_enter Try.func68, Try.ntmps68
  go_wp2_with fail
  go_loopw [4, 12] (fun n i wr => ∃ (P Q : Fo) (acc : Nat), P.len ≤ L ∧ i = .int .i64 P.len ∧ n = .int .i64 acc ∧ acc + Bk.costF Q ≤ M ∧ Hid (F = P.app Q) ∧ Hid (WF = (Bk.widF Q).map (acc + ·)) ∧ Hid (Below w.heap.size w wr)) (fun _ i _ => L - (intOf i).toNat)
  case atStart => exact ⟨.nil, F, 0, by simp [Fo.len], rfl, rfl, by rw [HM.out]; omega, Lib.hid rfl, Lib.hid (by rw [HWF.out]; cases Bk.widF F <;> simp), Lib.hid ((Below.refl _ _).alloc (Nat.le_refl _) _)⟩
  case round =>
    obtain ⟨P, Q, acc, hPL, rfl, rfl, hacc, HF, HQ, HW⟩ := hrel
    cases Q with
    | nil =>
      have hPl : P.len = L := by rw [HL.out, HF.out, Fo.app_nil]
      have hq : WF = some acc := by rw [HQ.out]; rfl
      have HE := Lib.hid hq
      obtain ⟨m, hm⟩ : ∃ m, m = P.len := ⟨_, rfl⟩
      rw [← hm] at hPL hPl ⊢
      have hml : ¬ m < L := by omega
      clear hPl hm hq
      go_wp2_with fail
      go_ret2
      exact ⟨ret_wide (by rw [HE.out]; rfl) (by rw [HE.out]; rfl), HW.out⟩
    | cons k t n kids Q =>
      have hlt : P.len < L := by
        have h1 := congrArg Fo.len HF.out
        rw [Fo.app_len, ← HL.out] at h1
        simp only [Fo.len] at h1
        omega
      rcases HS.out with h0 | ⟨b, off, rfl, hb, _, hr⟩
      · have := HL.out; omega
      rw [HF.out] at hr
      obtain ⟨⟨v, hv1, hv2⟩, hrest⟩ := prow_app hr
      clear hrest
      have hcell : wr.cell? ⟨b, off + P.len, none⟩ = some v := (HW.out.cell (p := ⟨b, off + P.len, none⟩) hb).trans hv1
      clear hr hv1
      have hgs := good_split (P := P) (by have := HG.out; rw [HF.out] at this; exact this)
      have hwa := wideAll_app (P := P) (by have := HA.out; rw [HF.out] at this; exact this)
      simp only [Bk.costF] at hacc
      have HF2 : Hid (F = (P.app (.cons k t n kids .nil)).app Q) := Lib.hid (by rw [HF.out, Fo.app_assoc]; rfl)
      have HPL : Hid ((P.app (.cons k t n kids .nil)).len = P.len + 1) := Lib.hid (by rw [Fo.app_len]; rfl)
      have hstep : ∀ x, Bk.nodeW k t kids = some x → Hid (WF = (Bk.widF Q).map (acc + x + ·)) := fun x hx => Lib.hid (by
        rw [HQ.out]
        cases hq : Bk.widF Q with
        | none =>
          have : Bk.widF (.cons k t n kids Q) = none := by
            unfold Bk.nodeW at hx
            rw [Bk.widF, hx, hq]
          rw [this]; rfl
        | some y => rw [Bk.wid_put hx hq]; show some (acc + (x + y)) = some (acc + x + y); rw [Nat.add_assoc])
      have hnone : Bk.nodeW k t kids = none → Hid (WF = none) := fun hx => Lib.hid (by rw [HQ.out, Bk.wid_none hx]; rfl)
      have HSTEP := Lib.hid hstep
      have HNONE := Lib.hid hnone
      clear hstep hnone
      have hwt := Bk.widS_le t
      rcases hv2 with ⟨rfl, rfl⟩ | ⟨rfl, rfl⟩ | ⟨rfl, rfl⟩ | ⟨rfl, rfl⟩ | ⟨hk, a', cp', rfl, hps⟩
      · have HN := HSTEP.out (Bk.widS t) rfl
        go_wp2_with (go_at_call 65; refine (wide65_any _ _ (by omega)).mono ?_; rintro e w2 ⟨rfl, hg⟩; have HW2 := Lib.hid (HW.out.trans (hg.mono HW.out.size)); clear hg)
        go_roundw
        case rel => exact ⟨_, Q, acc + Bk.widS t, by rw [HPL.out]; omega, by rw [HPL.out]; go_num, by go_num, by omega, HF2, HN, HW2⟩
        case measure => simp [intOf]; omega
      · have HN := HSTEP.out 1 rfl
        have q1 : ({ data := #[32] } : ByteArray).size = 1 := rfl
        go_wp2_with (go_at_call 66; refine (wide66_any _ _ (by decide)).mono ?_; rintro e w2 ⟨rfl, hg⟩; have HW2 := Lib.hid (HW.out.trans (hg.mono HW.out.size)); clear hg)
        go_roundw
        case rel => exact ⟨_, Q, acc + 1, by rw [HPL.out]; omega, by rw [HPL.out]; go_num, by go_num, by omega, HF2, HN, HW2⟩
        case measure => simp [intOf]; omega
      · have HN := HSTEP.out 0 rfl
        go_wp2_with (go_at_call 66; refine (wide66_any _ _ (by decide)).mono ?_; rintro e w2 ⟨rfl, hg⟩; have HW2 := Lib.hid (HW.out.trans (hg.mono HW.out.size)); clear hg)
        go_roundw
        case rel => exact ⟨_, Q, acc + 0, by rw [HPL.out]; omega, by rw [HPL.out]; go_num, by go_num, by omega, HF2, HN, HW2⟩
        case measure => simp [intOf]; omega
      · have HN := HNONE.out rfl
        go_wp2_with (go_at_call 67; refine (wide67_any _).mono ?_; rintro e w2 ⟨rfl, hg⟩; have HW2 := Lib.hid (HW.out.trans (hg.mono HW.out.size)); clear hg)
        go_ret2
        exact ⟨ret_wide (by rw [HN.out]; rfl) (by rw [HN.out]; rfl), HW2.out⟩
      · generalize (if k = 6 then Bk.clampN n else 0) = nv at hcell
        generalize (k == 7) = gv at hcell
        have hn5 : Bk.nodeW k t kids = Bk.widF kids := by
          unfold Bk.nodeW
          rw [if_neg (by omega), if_neg (by omega), if_neg (by omega), if_neg (by omega), if_pos (by omega)]
        have HWK := Lib.hid (hwa.1 (by omega))
        have HPS : Hid (PSl w (fun _ => True) kids a') := Lib.hid hps
        cases hwk : Bk.widF kids with
        | none =>
          have HN := HNONE.out (hn5.trans hwk)
          have HK := Lib.hid hwk
          clear hn5 hwk hwa hgs hps hk
          go_wp2_with (go_at_call 68; refine (HWK.out a' cp' _ _ _ (HPS.out.below HW.out)).mono ?_; rintro e w2 ⟨rfl, hg⟩; rw [HK.out]; have HW2 := Lib.hid (HW.out.trans (hg.mono HW.out.size)); clear hg)
          go_ret2
          exact ⟨ret_wide (by rw [HN.out]; rfl) (by rw [HN.out]; rfl), HW2.out⟩
        | some x =>
          have HN := HSTEP.out x (hn5.trans hwk)
          have HK := Lib.hid hwk
          have hxc := Bk.wid_cost kids x hwk
          clear hn5 hwk hwa hgs hps hk
          go_wp2_with (go_at_call 68; refine (HWK.out a' cp' _ _ _ (HPS.out.below HW.out)).mono ?_; rintro e w2 ⟨rfl, hg⟩; rw [HK.out]; have HW2 := Lib.hid (HW.out.trans (hg.mono HW.out.size)); clear hg)
          go_roundw
          case rel => exact ⟨_, Q, acc + x, by rw [HPL.out]; omega, by rw [HPL.out]; go_num, by go_num, by omega, HF2, HN, HW2⟩
          case measure => simp [intOf]; omega
end Go.Proofs.Ythkpoiideiimaaa
