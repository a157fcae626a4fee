/- The law FoldKeeps of chapter 6: its walk (printed by gen_keeps.py). -/
import Derived.Test.YtmmhpejnfkienaaKeeps
namespace Go.Proofs.Ytmmhpejnfkienaa
open Go Go.RowKit Go.PlainAid
set_option linter.unusedVariables false
set_option maxRecDepth 20000 in
set_option maxHeartbeats 3200000 in
theorem foldKeeps_walk (a0 : Option Addr) (len cap : Nat) (zs : List Int) (a1 : Option Addr) (len1 cap1 : Nat) (gs : Nat → Bool) (w : World) (h0 : IntsAt w a0 len zs) (h1 : BoolsAt w a1 len1 gs) :
    Calls Try.prog 15 #[.slice a0 len cap, .slice a1 len1 cap1] w fun e w' => e = .returned (.bool true) ∧ Below w.heap.size w w' := by
  have hlm : len ≤ 9223372036854775807 := h0.1
  have hlm1 : len1 ≤ 9223372036854775807 := h1.1
  have H0 := Lib.hid h0.2
  have H1 := Lib.hid h1.2
  clear h0 h1
  have q1 : ({ data := #[32] } : ByteArray).size = 1 := rfl
  have q2 : ({ data := #[10] } : ByteArray).size = 1 := rfl
  by_cases hok : 1 ≤ len ∧ len ≤ 10
  · obtain ⟨hl1, hl10⟩ := hok
    go_enter Try.func15, Try.ntmps15
    go_wp2_with fail
    go_loopw [5, 6, 7] (fun v t i wr => ∃ (k : Nat) (ys : List ByteArray) (want la : ByteArray) (d : Bool), k ≤ len ∧ i = .int .i64 k ∧ t = .string want ∧ Hid (ys.length = k) ∧ Hid (Bk.Kp ys want la) ∧ Hid ((k = 0 ∧ want = ByteArray.empty ∧ la = ByteArray.empty) ∨ (0 < k ∧ Bk.IsR la d ∧ Bk.rowAt ys (k - 1) = la)) ∧ Hid (Own w.heap.size v ys wr) ∧ Hid (Below w.heap.size w wr)) (fun _ _ i _ => len - (intOf i).toNat)
    case atStart => exact ⟨0, [], ByteArray.empty, ByteArray.empty, false, by omega, rfl, rfl, Lib.hid rfl, Lib.hid Bk.kp_nil, Lib.hid (.inl ⟨rfl, rfl, rfl⟩), Lib.hid (own_nil _ _), Lib.hid (Below.refl _ _)⟩
    case round =>
      obtain ⟨k, ys, want, la, d, hkl, rfl, rfl, HY, HK, HD, HO, HW⟩ := hrel
      have hyk : ys.length = k := HY.out
      have hwl : want.size ≤ 60 := by have := HK.out.2.2.2; omega
      obtain ⟨ad, cp, hv, hst, hcap⟩ := own_strs HO.out (by omega)
      subst hv
      rw [hyk] at hst hcap HO
      have HST := Lib.hid hst
      have HCAP := Lib.hid hcap
      rw [hyk]
      clear hst hcap
      by_cases hlt : k < len
      · rcases H0.out with h0 | ⟨b, off, rfl, hb, hc⟩
        · omega
        have hcell : wr.cell? ⟨b, off + k, none⟩ = some (.int .i64 (zs.getD k 0)) := by
          rw [HW.out.cell (p := ⟨b, off + k, none⟩) hb]; exact hc k hlt
        obtain ⟨z, hz⟩ : ∃ z, z = zs.getD k 0 := ⟨_, rfl⟩
        rw [← hz] at hcell
        clear hz hc
        obtain ⟨hR1, hR2⟩ := Bk.word_R z
        obtain ⟨wd, hwd⟩ : ∃ wd, wd = Bk.wordS z := ⟨_, rfl⟩
        have HWD := Lib.hid hwd
        rw [← hwd] at hR1 hR2
        have HR1 := Lib.hid hR1
        have HR2 := Lib.hid hR2
        have hz1 : wd.size ≤ 4 := hR1.2.1
        have z1 := Bk.size_app ⟨#[32]⟩ wd
        clear hwd hR1 hR2
        by_cases hk0 : k = 0
        · have HD0 : Hid (want = ByteArray.empty ∧ la = ByteArray.empty) := Lib.hid (by rcases HD.out with h | h; exact h.2; omega)
          obtain ⟨rfl, rfl⟩ := HD0.out
          subst hk0
          rw [Nat.add_zero] at hcell
          by_cases hk1 : 0 < len1
          · rcases H1.out with h0 | ⟨b1, off1, rfl, hb1, hc1⟩
            · omega
            have hcb0 : wr.cell? ⟨b1, off1 + (0), none⟩ = some (.bool (gs (0))) := by
              rw [HW.out.cell (p := ⟨b1, off1 + (0), none⟩) hb1]; exact hc1 (0) hk1
            rw [Nat.add_zero] at hcb0
            have HB1 : Hid (b1 < wr.heap.size) := Lib.hid (Nat.lt_of_lt_of_le hb1 HW.out.size)
            clear hc1
            cases hgb : gs (0) with
            | true =>
              rw [hgb] at hcb0
              have HCB := Lib.hid hcb0
              clear hcb0 hgb
              have HN := Lib.hid (Bk.kp_put HK.out HR2.out)
              rw [Bk.mid_none] at HN
              have HX : Hid (ByteArray.empty ++ (⟨#[32]⟩ ++ wd) = ByteArray.empty ++ ByteArray.empty ++ (⟨#[32]⟩ ++ wd)) := Lib.hid rfl
              have hx1 := Bk.size_app ByteArray.empty ((⟨#[32]⟩ ++ wd))
              go_wp2_with first
                | (go_at_call 59; refine (wordOf_any _ _).mono ?_; rintro e w1 ⟨rfl, hg⟩; rw [← HWD.out]; have hcb : w1.cell? ⟨b1, off1, none⟩ = some (.bool true) := (hg.cell (p := ⟨b1, off1, none⟩) HB1.out).trans HCB.out; have K1 := Lib.hid (HW.out.trans (hg.mono HW.out.size)); have O1 := Lib.hid (HO.out.below hg); clear hg)
                | (at_builtin; refine app_one (w0 := w) rfl (.tmp 65) (.tmp 67) rfl _ ys _ rfl rfl O1 (by omega) K1 ?_; intro v2 w2 O2 K2)
              go_roundw
              case rel => exact ⟨1, ys ++ [(⟨#[32]⟩ ++ wd)], _, (⟨#[32]⟩ ++ wd), true, by omega, by go_num, by rw [ByteArray.empty_append, ByteArray.empty_append], Lib.hid (by rw [List.length_append, HY.out]; rfl), HN, Lib.hid (.inr ⟨by omega, HR2.out, by have h := Bk.row_mid ys [] ((⟨#[32]⟩ ++ wd)); rw [HY.out] at h; exact h⟩), O2, K2⟩
              case measure => simp [intOf]; omega
            | false =>
              rw [hgb] at hcb0
              have HCB := Lib.hid hcb0
              clear hcb0 hgb
              have HN := Lib.hid (Bk.kp_put HK.out HR1.out)
              rw [Bk.mid_none] at HN
              have HX : Hid (ByteArray.empty ++ wd = ByteArray.empty ++ ByteArray.empty ++ wd) := Lib.hid rfl
              have hx1 := Bk.size_app ByteArray.empty (wd)
              go_wp2_with first
                | (go_at_call 59; refine (wordOf_any _ _).mono ?_; rintro e w1 ⟨rfl, hg⟩; rw [← HWD.out]; have hcb : w1.cell? ⟨b1, off1, none⟩ = some (.bool false) := (hg.cell (p := ⟨b1, off1, none⟩) HB1.out).trans HCB.out; have K1 := Lib.hid (HW.out.trans (hg.mono HW.out.size)); have O1 := Lib.hid (HO.out.below hg); clear hg)
                | (at_builtin; refine app_one (w0 := w) rfl (.tmp 65) (.tmp 67) rfl _ ys _ rfl rfl O1 (by omega) K1 ?_; intro v2 w2 O2 K2)
              go_roundw
              case rel => exact ⟨1, ys ++ [wd], _, wd, false, by omega, by go_num, by rw [ByteArray.empty_append, ByteArray.empty_append], Lib.hid (by rw [List.length_append, HY.out]; rfl), HN, Lib.hid (.inr ⟨by omega, HR1.out, by have h := Bk.row_mid ys [] (wd); rw [HY.out] at h; exact h⟩), O2, K2⟩
              case measure => simp [intOf]; omega
          · have HN := Lib.hid (Bk.kp_put HK.out HR1.out)
            rw [Bk.mid_none] at HN
            have HX : Hid (ByteArray.empty ++ wd = ByteArray.empty ++ ByteArray.empty ++ wd) := Lib.hid rfl
            have hx1 := Bk.size_app ByteArray.empty (wd)
            go_wp2_with first
              | (go_at_call 59; refine (wordOf_any _ _).mono ?_; rintro e w1 ⟨rfl, hg⟩; rw [← HWD.out]; have K1 := Lib.hid (HW.out.trans (hg.mono HW.out.size)); have O1 := Lib.hid (HO.out.below hg); clear hg)
              | (at_builtin; refine app_one (w0 := w) rfl (.tmp 65) (.tmp 67) rfl _ ys _ rfl rfl O1 (by omega) K1 ?_; intro v2 w2 O2 K2)
            go_roundw
            case rel => exact ⟨1, ys ++ [wd], _, wd, false, by omega, by go_num, by rw [ByteArray.empty_append, ByteArray.empty_append], Lib.hid (by rw [List.length_append, HY.out]; rfl), HN, Lib.hid (.inr ⟨by omega, HR1.out, by have h := Bk.row_mid ys [] (wd); rw [HY.out] at h; exact h⟩), O2, K2⟩
            case measure => simp [intOf]; omega
        · obtain ⟨m, rfl⟩ : ∃ m, k = m + 1 := ⟨k - 1, by omega⟩
          have HDD : Hid (Bk.IsR la d ∧ Bk.rowAt ys m = la) := Lib.hid (by
            rcases HD.out with h | h
            · omega
            · exact ⟨h.2.1, h.2.2⟩)
          have hlp : 0 < la.size := HDD.out.1.1
          rcases HST.out.2.2 with h0 | ⟨b2, off2, rfl, hb2, hc2⟩
          · omega
          have hcla : wr.cell? ⟨b2, off2 + m, none⟩ = some (.string la) := by rw [← HDD.out.2]; exact hc2 m (by omega)
          have HCLA := Lib.hid hcla
          have HB2 := Lib.hid hb2
          have hbt := get_bt la
          clear hcla hb2 hc2
          by_cases hk1 : m + 1 < len1
          · rcases H1.out with h0 | ⟨b1, off1, rfl, hb1, hc1⟩
            · omega
            have hcb0 : wr.cell? ⟨b1, off1 + (m + 1), none⟩ = some (.bool (gs (m + 1))) := by
              rw [HW.out.cell (p := ⟨b1, off1 + (m + 1), none⟩) hb1]; exact hc1 (m + 1) hk1
            have HB1 : Hid (b1 < wr.heap.size) := Lib.hid (Nat.lt_of_lt_of_le hb1 HW.out.size)
            clear hc1
            cases hgb : gs (m + 1) with
            | true =>
              rw [hgb] at hcb0
              have HCB := Lib.hid hcb0
              clear hcb0 hgb
              have HN := Lib.hid (Bk.kp_put HK.out HR2.out)
              have HX : Hid (Bk.midS la ((⟨#[32]⟩ ++ wd)) 0 = ⟨#[10]⟩) := Lib.hid (by rw [Bk.mid_some HDD.out.1 HR2.out]; cases d <;> rfl)
              replace HN := Lib.hid HN.out
              rw [HX.out] at HN
              have hx1 := Bk.size_app want ⟨#[10]⟩
              have hx2 := Bk.size_app (want ++ ⟨#[10]⟩) ((⟨#[32]⟩ ++ wd))
              go_wp2_with first
                | (go_at_call 59; refine (wordOf_any _ _).mono ?_; rintro e w1 ⟨rfl, hg⟩; rw [← HWD.out]; have hcb : w1.cell? ⟨b1, off1 + (m + 1), none⟩ = some (.bool true) := (hg.cell (p := ⟨b1, off1 + (m + 1), none⟩) HB1.out).trans HCB.out; have K1 := Lib.hid (HW.out.trans (hg.mono HW.out.size)); have O1 := Lib.hid (HO.out.below hg); clear hg)
                | (at_builtin; refine app_one (w0 := w) rfl (.tmp 65) (.tmp 67) rfl _ ys _ rfl rfl O1 (by omega) K1 ?_; intro v2 w2 O2 K2)
              go_roundw
              case rel => exact ⟨m + 1 + 1, ys ++ [(⟨#[32]⟩ ++ wd)], _, (⟨#[32]⟩ ++ wd), true, by omega, by go_num, rfl, Lib.hid (by rw [List.length_append, HY.out]; rfl), HN, Lib.hid (.inr ⟨by omega, HR2.out, by have h := Bk.row_mid ys [] ((⟨#[32]⟩ ++ wd)); rw [HY.out] at h; exact h⟩), O2, K2⟩
              case measure => simp [intOf]; omega
            | false =>
              rw [hgb] at hcb0
              have HCB := Lib.hid hcb0
              clear hcb0 hgb
              cases d with
              | true =>
                have HN := Lib.hid (Bk.kp_put HK.out HR1.out)
                have HX : Hid (Bk.midS la (wd) 0 = ⟨#[10]⟩) := Lib.hid (by rw [Bk.mid_some HDD.out.1 HR1.out]; rfl)
                replace HN := Lib.hid HN.out
                rw [HX.out] at HN
                have hx1 := Bk.size_app want ⟨#[10]⟩
                have hx2 := Bk.size_app (want ++ ⟨#[10]⟩) (wd)
                have hla : (bt la 0 == 32) = true := HDD.out.1.2.2.2.1
                go_wp2_with first
                  | (go_at_call 59; refine (wordOf_any _ _).mono ?_; rintro e w1 ⟨rfl, hg⟩; rw [← HWD.out]; have hcb : w1.cell? ⟨b1, off1 + (m + 1), none⟩ = some (.bool false) := (hg.cell (p := ⟨b1, off1 + (m + 1), none⟩) HB1.out).trans HCB.out; have hcl : w1.cell? ⟨b2, off2 + m, none⟩ = some (.string la) := (hg.cell (p := ⟨b2, off2 + m, none⟩) HB2.out).trans HCLA.out; have K1 := Lib.hid (HW.out.trans (hg.mono HW.out.size)); have O1 := Lib.hid (HO.out.below hg); clear hg)
                  | (at_builtin; refine app_one (w0 := w) rfl (.tmp 65) (.tmp 67) rfl _ ys _ rfl rfl O1 (by omega) K1 ?_; intro v2 w2 O2 K2)
                go_roundw
                case rel => exact ⟨m + 1 + 1, ys ++ [wd], _, wd, false, by omega, by go_num, rfl, Lib.hid (by rw [List.length_append, HY.out]; rfl), HN, Lib.hid (.inr ⟨by omega, HR1.out, by have h := Bk.row_mid ys [] (wd); rw [HY.out] at h; exact h⟩), O2, K2⟩
                case measure => simp [intOf]; omega
              | false =>
                have HN := Lib.hid (Bk.kp_put HK.out HR1.out)
                have HX : Hid (Bk.midS la (wd) 0 = ⟨#[32]⟩) := Lib.hid (by rw [Bk.mid_some HDD.out.1 HR1.out]; rfl)
                replace HN := Lib.hid HN.out
                rw [HX.out] at HN
                have hx1 := Bk.size_app want ⟨#[32]⟩
                have hx2 := Bk.size_app (want ++ ⟨#[32]⟩) (wd)
                have hla : (bt la 0 == 32) = false := HDD.out.1.2.2.2.1
                go_wp2_with first
                  | (go_at_call 59; refine (wordOf_any _ _).mono ?_; rintro e w1 ⟨rfl, hg⟩; rw [← HWD.out]; have hcb : w1.cell? ⟨b1, off1 + (m + 1), none⟩ = some (.bool false) := (hg.cell (p := ⟨b1, off1 + (m + 1), none⟩) HB1.out).trans HCB.out; have hcl : w1.cell? ⟨b2, off2 + m, none⟩ = some (.string la) := (hg.cell (p := ⟨b2, off2 + m, none⟩) HB2.out).trans HCLA.out; have K1 := Lib.hid (HW.out.trans (hg.mono HW.out.size)); have O1 := Lib.hid (HO.out.below hg); clear hg)
                  | (at_builtin; refine app_one (w0 := w) rfl (.tmp 65) (.tmp 67) rfl _ ys _ rfl rfl O1 (by omega) K1 ?_; intro v2 w2 O2 K2)
                go_roundw
                case rel => exact ⟨m + 1 + 1, ys ++ [wd], _, wd, false, by omega, by go_num, rfl, Lib.hid (by rw [List.length_append, HY.out]; rfl), HN, Lib.hid (.inr ⟨by omega, HR1.out, by have h := Bk.row_mid ys [] (wd); rw [HY.out] at h; exact h⟩), O2, K2⟩
                case measure => simp [intOf]; omega
          · cases d with
            | true =>
              have HN := Lib.hid (Bk.kp_put HK.out HR1.out)
              have HX : Hid (Bk.midS la (wd) 0 = ⟨#[10]⟩) := Lib.hid (by rw [Bk.mid_some HDD.out.1 HR1.out]; rfl)
              replace HN := Lib.hid HN.out
              rw [HX.out] at HN
              have hx1 := Bk.size_app want ⟨#[10]⟩
              have hx2 := Bk.size_app (want ++ ⟨#[10]⟩) (wd)
              have hla : (bt la 0 == 32) = true := HDD.out.1.2.2.2.1
              go_wp2_with first
                | (go_at_call 59; refine (wordOf_any _ _).mono ?_; rintro e w1 ⟨rfl, hg⟩; rw [← HWD.out]; have hcl : w1.cell? ⟨b2, off2 + m, none⟩ = some (.string la) := (hg.cell (p := ⟨b2, off2 + m, none⟩) HB2.out).trans HCLA.out; have K1 := Lib.hid (HW.out.trans (hg.mono HW.out.size)); have O1 := Lib.hid (HO.out.below hg); clear hg)
                | (at_builtin; refine app_one (w0 := w) rfl (.tmp 65) (.tmp 67) rfl _ ys _ rfl rfl O1 (by omega) K1 ?_; intro v2 w2 O2 K2)
              go_roundw
              case rel => exact ⟨m + 1 + 1, ys ++ [wd], _, wd, false, by omega, by go_num, rfl, Lib.hid (by rw [List.length_append, HY.out]; rfl), HN, Lib.hid (.inr ⟨by omega, HR1.out, by have h := Bk.row_mid ys [] (wd); rw [HY.out] at h; exact h⟩), O2, K2⟩
              case measure => simp [intOf]; omega
            | false =>
              have HN := Lib.hid (Bk.kp_put HK.out HR1.out)
              have HX : Hid (Bk.midS la (wd) 0 = ⟨#[32]⟩) := Lib.hid (by rw [Bk.mid_some HDD.out.1 HR1.out]; rfl)
              replace HN := Lib.hid HN.out
              rw [HX.out] at HN
              have hx1 := Bk.size_app want ⟨#[32]⟩
              have hx2 := Bk.size_app (want ++ ⟨#[32]⟩) (wd)
              have hla : (bt la 0 == 32) = false := HDD.out.1.2.2.2.1
              go_wp2_with first
                | (go_at_call 59; refine (wordOf_any _ _).mono ?_; rintro e w1 ⟨rfl, hg⟩; rw [← HWD.out]; have hcl : w1.cell? ⟨b2, off2 + m, none⟩ = some (.string la) := (hg.cell (p := ⟨b2, off2 + m, none⟩) HB2.out).trans HCLA.out; have K1 := Lib.hid (HW.out.trans (hg.mono HW.out.size)); have O1 := Lib.hid (HO.out.below hg); clear hg)
                | (at_builtin; refine app_one (w0 := w) rfl (.tmp 65) (.tmp 67) rfl _ ys _ rfl rfl O1 (by omega) K1 ?_; intro v2 w2 O2 K2)
              go_roundw
              case rel => exact ⟨m + 1 + 1, ys ++ [wd], _, wd, false, by omega, by go_num, rfl, Lib.hid (by rw [List.length_append, HY.out]; rfl), HN, Lib.hid (.inr ⟨by omega, HR1.out, by have h := Bk.row_mid ys [] (wd); rw [HY.out] at h; exact h⟩), O2, K2⟩
              case measure => simp [intOf]; omega
      · obtain rfl : k = len := by omega
        have HDD : Hid (Bk.IsR la d) := Lib.hid (by
          rcases HD.out with h | h
          · omega
          · exact h.2.1)
        have hE := Bk.kp_end HK.out HDD.out.1
        rw [hyk] at hE
        have HE := Lib.hid hE
        have hz := Bk.sumZ_small HK.out.2.1 k
        have HZ : Hid (Bk.sumZ ys k ≤ 140737488355328) := Lib.hid (by omega)
        have hjl : (Bk.joinS ys k).size ≤ 1000 := by have := Bk.joinS_le ys k; omega
        clear hE hz
        obtain ⟨s, hs⟩ : ∃ s, s = Bk.joinS ys k := ⟨_, rfl⟩
        rw [← hs] at hjl
        have HS := Lib.hid hs
        clear hs
        have hbs := get_bt s
        go_wp2_with (go_at_call 57; refine (keep57_any _ _ _ ys _ HST.out HZ.out HCAP.out).mono ?_; rintro e w3 ⟨rfl, hg⟩; rw [← HS.out]; have K3 := Lib.hid hg; clear hg)
        go_loopw [12, 13] (fun n i wq => ∃ j : Nat, j ≤ s.size ∧ i = .int .i64 j ∧ n = .int .i64 (Bk.cntN s j) ∧ Bk.cntN s j ≤ j ∧ wq = w3) (fun _ i _ => s.size - (intOf i).toNat)
        case atStart => exact ⟨0, by omega, rfl, rfl, Nat.le_refl _, rfl⟩
        case round =>
          obtain ⟨j, hj, rfl, rfl, hcj, rfl⟩ := hrel
          by_cases hjs : j < s.size
          · cases hq : (bt s j == 10) with
            | true =>
              have HN : Hid (Bk.cntN s (j + 1) = Bk.cntN s j + 1) := Lib.hid (by rw [Bk.cntN, hq]; rfl)
              go_wp2_with fail
              go_roundw
              case rel => exact ⟨j + 1, by omega, by go_num, by rw [HN.out]; go_num, by rw [HN.out]; omega, trivial⟩
              case measure => simp [intOf]; omega
            | false =>
              have HN : Hid (Bk.cntN s (j + 1) = Bk.cntN s j) := Lib.hid (by rw [Bk.cntN, hq]; rfl)
              go_wp2_with fail
              go_roundw
              case rel => exact ⟨j + 1, by omega, by go_num, by rw [HN.out], by rw [HN.out]; omega, trivial⟩
              case measure => simp [intOf]; omega
          · obtain rfl : j = s.size := by omega
            have hcn : ((Bk.cntN s s.size : Nat) : Int) = (k : Int) - 1 := by
              have h := HE.out.2
              rw [← HS.out] at h
              have h2 : Bk.cntN s s.size = k - 1 := h
              rw [h2]; omega
            rw [hcn]
            clear hcn hcj
            go_wp2_with first
              | (go_at_call 57; refine (block57_any _ _ _ ys _ (HST.out.below K3.out) HZ.out).mono ?_; rintro e w4 ⟨rfl, hg⟩; rw [HE.out.1]; have K4 := Lib.hid (K3.out.trans (hg.mono K3.out.size)); clear hg)
              | (go_at_call 54; refine (awake6 _).mono ?_; rintro e w5 ⟨rfl, hg⟩; have K5 := Lib.hid (K4.out.trans (hg.mono K4.out.size)); clear hg)
            go_ret
            exact ⟨rfl, HW.out.trans (K5.out.mono HW.out.size)⟩
  · by_cases hl1 : len < 1
    · go_enter Try.func15, Try.ntmps15
      go_wp2_with (go_at_call 54; refine (awake6 _).mono ?_; rintro e w' ⟨rfl, hg⟩)
      go_ret
      exact ⟨rfl, hg⟩
    · have hl2 : 10 < len := by omega
      clear hok
      go_enter Try.func15, Try.ntmps15
      go_wp2_with (go_at_call 54; refine (awake6 _).mono ?_; rintro e w' ⟨rfl, hg⟩)
      go_ret
      exact ⟨rfl, hg⟩
end Go.Proofs.Ytmmhpejnfkienaa
