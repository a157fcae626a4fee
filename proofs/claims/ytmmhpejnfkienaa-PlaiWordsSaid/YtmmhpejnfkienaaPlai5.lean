/- Read of package plai: contract. -/
import Derived.Test.YtmmhpejnfkienaaPlai4
import Derived.Test.YtmmhpejnfkienaaZeros
namespace Go.Proofs.Ytmmhpejnfkienaa
open Go Go.RowKit Go.PlainAid
set_option linter.unusedVariables false
theorem own_lit (B : Nat) (t : ByteArray) (w : World) (hB : B ≤ w.heap.size) : Own B (.slice (some ⟨w.heap.size, 0, none⟩) 1 1) [t] (w.alloc (.cells #[.string t] 9)) :=
  ⟨rfl, .inr ⟨w.heap.size, 1, #[.string t], rfl, hB, heap_alloc_new w _, Nat.le_refl _, by decide, rfl, rfl⟩⟩
theorem cell_new (w : World) (t : ByteArray) : (w.alloc (.cells #[.string t] 9)).cell? ⟨w.heap.size, 0, none⟩ = some (.string t) := by
  rw [World.cell?_alloc_new]; rfl
theorem cell_kept {B : Nat} {v : Value} {xs : List ByteArray} {w w' : World} {t : ByteArray} (h : Own B v xs w) (hg : (w.alloc (.cells #[.string t] 9)).drew.grownBy w' v.ownBlock) : w'.cell? ⟨w.heap.size, 0, none⟩ = some (.string t) :=
  hg.cell (show (w.alloc (.cells #[.string t] 9)).drew.cell? _ = _ from cell_new w t) (fun e => by have := (World.ownsRow.lt h w.heap.size e.symm).2; omega)
theorem ret_read {x : ByteArray × Nat × Bool × Int} {t : ByteArray} {a : Int} {b : Bool} {c : Int} (h1 : t = x.1) (h2 : a = x.2.1) (h3 : b = x.2.2.1) (h4 : c = x.2.2.2) :
    Ending.returned (.tuple #[.string t, .int .i64 a, .bool b, .int .i64 c]) = .returned (.tuple #[.string x.1, .int .i64 (x.2.1 : Nat), .bool x.2.2.1, .int .i64 x.2.2.2]) := by rw [h1, h2, h3, h4]
namespace Bk
/-- What reading has come to: the list, and what is left to read. -/
def Rd (s : ByteArray) (n : Int) (fl : Bool) (R : Nat × List ByteArray × Bool) (e : Nat) (l : List ByteArray) (o : Bool) : Prop :=
  (∃ f, R = readL s n fl f e l o ∧ s.size - e < f) ∧ sumA l ≤ e + 1 ∧ e ≤ s.size ∧ 0 < l.length
theorem rd_end {s : ByteArray} {n : Int} {fl : Bool} {R : Nat × List ByteArray × Bool} {e : Nat} {l : List ByteArray} {o : Bool} (h : Rd s n fl R e l o) (hn : (nextS s e n fl).2.2 = false) : R = (e, l, o) := by
  obtain ⟨⟨f, h1, _⟩, _⟩ := h
  rw [h1, readL_no hn]
theorem rd_next {s : ByteArray} {n : Int} {fl : Bool} {R : Nat × List ByteArray × Bool} {e : Nat} {l : List ByteArray} {o : Bool} (h : Rd s n fl R e l o) (hn : (nextS s e n fl).2.2 = true) :
    Rd s n fl R (partN s (nextS s e n fl).1 fl) (l ++ List.replicate (nextS s e n fl).2.1 ByteArray.empty ++ [s.extract (nextS s e n fl).1 (partN s (nextS s e n fl).1 fl)]) false := by
  obtain ⟨⟨f, h1, h2⟩, h3, h4, h5⟩ := h
  obtain ⟨f', h6, h7⟩ := readL_yes (l := l) (o := o) h4 hn h2
  have hi := next_is h4 hn
  refine ⟨⟨f', h1.trans h6, h7⟩, ?_, hi.2.2.1, by simp; omega⟩
  rw [sumA_app, sumA_app, sumA_rep, sumA_one, size_ext _ _ _ hi.2.2.1]
  omega
theorem rd_start {s : ByteArray} {k : Nat} {n : Int} {fl : Bool} (hk : k ≤ s.size) : Rd s n fl (readL s n fl (s.size + 1) (partN s k fl) [s.extract k (partN s k fl)] true) (partN s k fl) [s.extract k (partN s k fl)] true := by
  have h1 := partN_ge s k fl
  have h2 := partN_le s k fl
  have h3 := toN_le hk
  refine ⟨⟨s.size + 1, rfl, by omega⟩, ?_, by omega, by simp⟩
  rw [sumA_one, size_ext _ _ _ (by omega)]
  omega
end Bk
set_option maxRecDepth 20000 in
set_option maxHeartbeats 12800000 in
theorem read63_any (s : ByteArray) (k : Nat) (n : Int) (fl : Bool) (w : World) (hs : s.size ≤ 900000) (hk : k ≤ s.size) :
    Calls Try.prog 63 #[.string s, .int .i64 k, .int .i64 n, .bool fl] w fun e w' => e = .returned (.tuple #[.string (Bk.readS s k n fl).1, .int .i64 ((Bk.readS s k n fl).2.1 : Nat), .bool (Bk.readS s k n fl).2.2.1, .int .i64 (Bk.readS s k n fl).2.2.2]) ∧ Below w.heap.size w w' := by
  have hb := get_bt s
  have h1 := Bk.partN_ge s k fl
  have h2 := Bk.partN_le s k fl
  have h3 := Bk.toN_le hk
  cases hB : Bk.beginsB s k fl with
  | false =>
    have HE : Hid (Bk.readS s k n fl = (ByteArray.empty, k, false, 5)) := Lib.hid (by rw [Bk.readS, if_neg (by rw [hB]; decide)])
    have HB := Lib.hid hB
    go_enter Try.func63, Try.ntmps63
    go_wp2_with (go_at_call 65; refine (begins_any s _ fl _ (by omega) (by omega)).mono ?_; rintro e w' ⟨rfl, rfl⟩; rw [Int.toNat_natCast, HB.out])
    refine bodyPost_ret (v := .tuple #[.string ByteArray.empty, .int .i64 k, .bool false, .int .i64 5]) (by simp [results, Try.results63, go_sem]; try rfl) rfl ⟨by rw [HE.out], Below.refl _ _⟩
  | true =>
    have HE : Hid (Bk.readS s k n fl = if !fl && !(Bk.readL s n fl (s.size + 1) (Bk.partN s k fl) [s.extract k (Bk.partN s k fl)] true).2.2 && Bk.colonB s (Bk.readL s n fl (s.size + 1) (Bk.partN s k fl) [s.extract k (Bk.partN s k fl)] true).1 then
      (ByteArray.empty, Bk.firstN s (Bk.readL s n fl (s.size + 1) (Bk.partN s k fl) [s.extract k (Bk.partN s k fl)] true).1 s.size, false, 5)
      else (Bk.foldFlow (Bk.readL s n fl (s.size + 1) (Bk.partN s k fl) [s.extract k (Bk.partN s k fl)] true).2.1, (Bk.readL s n fl (s.size + 1) (Bk.partN s k fl) [s.extract k (Bk.partN s k fl)] true).1, (Bk.readL s n fl (s.size + 1) (Bk.partN s k fl) [s.extract k (Bk.partN s k fl)] true).2.2, 0)) := Lib.hid (by rw [Bk.readS, if_pos hB])
    have HR := Lib.hid (Bk.rd_start (n := n) (fl := fl) hk)
    obtain ⟨R, hR⟩ : ∃ R, R = Bk.readL s n fl (s.size + 1) (Bk.partN s k fl) [s.extract k (Bk.partN s k fl)] true := ⟨_, rfl⟩
    rw [← hR] at HE HR
    clear hR
    have HB := Lib.hid hB
    clear hB
    obtain ⟨e0, he0⟩ : ∃ e0, e0 = Bk.partN s k fl := ⟨_, rfl⟩
    rw [← he0] at HR h1 h2
    have HE0 := Lib.hid he0
    clear he0
    go_enter Try.func63, Try.ntmps63
    go_wp2_with first
      | (go_at_call 65; refine (begins_any s _ fl _ (by omega) (by omega)).mono ?_; rintro e w' ⟨rfl, rfl⟩; rw [Int.toNat_natCast, HB.out])
      | (go_at_call 64; refine (part_any s _ fl _ (by omega) (by omega)).mono ?_; rintro e w1 ⟨rfl, hg⟩; rw [Int.toNat_natCast, ← HE0.out]; have K1 := Lib.hid hg; have K2 := Lib.hid (hg.alloc hg.size (.cells #[.string (s.extract k e0)] 9)); have O1 := Lib.hid (own_lit w.heap.size (s.extract k e0) _ hg.size); clear hg)
    go_loopw [12, 13, 14] (fun ev v ov wr => ∃ (e : Nat) (l : List ByteArray) (o : Bool), ev = .int .i64 e ∧ ov = .bool o ∧ e ≤ s.size ∧ Hid (Bk.Rd s n fl R e l o) ∧ Hid (Own w.heap.size v l wr) ∧ Hid (Below w.heap.size w wr)) (fun ev _ _ _ => s.size - (intOf ev).toNat)
    case atStart => exact ⟨e0, _, true, rfl, rfl, by omega, HR, O1, K2⟩
    case round =>
      obtain ⟨e, l, o, rfl, rfl, hes, H, HO, HW⟩ := hrel
      cases hN : (Bk.nextS s e n fl).2.2 with
      | true =>
        have HI := Lib.hid (Bk.next_is hes hN)
        have HR2 := Lib.hid (Bk.rd_next H.out hN)
        have hll : l.length + (Bk.nextS s e n fl).2.1 + 1 ≤ 1000000 := by
          have h1 := HR2.out.2.1
          have h2 := Bk.len_sumA (l ++ List.replicate (Bk.nextS s e n fl).2.1 ByteArray.empty ++ [s.extract (Bk.nextS s e n fl).1 (Bk.partN s (Bk.nextS s e n fl).1 fl)])
          have h3 := HI.out.2.2.1
          rw [List.length_append, List.length_append, List.length_replicate, List.length_singleton] at h2
          omega
        have HN := Lib.hid hN
        clear hN
        obtain ⟨x, hx⟩ : ∃ x, x = Bk.nextS s e n fl := ⟨_, rfl⟩
        rw [← hx] at HI HR2 HN hll
        have HX := Lib.hid hx
        clear hx
        obtain ⟨p, b, ok⟩ := x
        simp only at HI HR2 HN hll
        obtain ⟨q, hq⟩ : ∃ q, q = Bk.partN s p fl := ⟨_, rfl⟩
        rw [← hq] at HI HR2
        have HQ := Lib.hid hq
        clear hq
        have hi1 := HI.out.1
        have hi2 := HI.out.2.1
        have hi3 := HI.out.2.2.1
        go_wp2_with first
          | (go_at_call 87; refine (next_any s _ n fl _ (by omega) hes).mono ?_; rintro e1 w2 ⟨rfl, hg⟩; rw [← HX.out]; replace HO := Lib.hid (HO.out.below hg); replace HW := Lib.hid (HW.out.trans (hg.mono HW.out.size)); clear hg; simp only [HN.out])
          | (go_at_call 64; refine (part_any s _ fl _ (by omega) (by omega)).mono ?_; rintro e1 w3 ⟨rfl, hg⟩; rw [Int.toNat_natCast, ← HQ.out]; replace HO := Lib.hid (HO.out.below hg); replace HW := Lib.hid (HW.out.trans (hg.mono HW.out.size)); clear hg)
        have HOd : Hid (Own w.heap.size u13 l w3.drew) := Lib.hid HO.out
        have HWd : Hid (Below w.heap.size w w3.drew) := Lib.hid HW.out.drew
        have HOa : Hid (Own w.heap.size u13 l (w3.alloc (.cells #[.string (s.extract p q)] 9)).drew) := Lib.hid (World.ownsRow.alloc HO.out _)
        have HWa : Hid (Below w.heap.size w (w3.alloc (.cells #[.string (s.extract p q)] 9)).drew) := Lib.hid (HW.out.alloc HW.out.size _).drew
        have hpq : p ≤ q := by omega
        have HL4 : Hid ((l ++ List.replicate b ByteArray.empty).length + 1 ≤ 1000000) := Lib.hid (by rw [List.length_append, List.length_replicate]; omega)
        have HL5 : Hid (l.length + b ≤ 1000000) := Lib.hid (by omega)
        go_region_law (first
          | (have hh := HOd; clear hh; refine step_zeros (w0 := w) rfl (.tmp 49) (.tmp 50) rfl u13 l b rfl rfl ?_ HL5.out ?_ ?_; (first | with_reducible exact HOd | with_reducible exact HOa); (first | with_reducible exact HWd | with_reducible exact HWa); intro v4 w4 HO4 HW4 HG4; clear HOd HWd HOa HWa)
          | (have hh := HG4; clear hh; refine step_one (w0 := w) rfl (.tmp 51) (.tmp 56) rfl v4 (l ++ List.replicate b ByteArray.empty) (s.extract p q) _ rfl rfl ?_ ?_ HL4.out ?_ ?_; (first | with_reducible exact Lib.hid (cell_new w4 (s.extract p q)) | with_reducible exact Lib.hid (cell_kept HO.out HG4.out)); (first | with_reducible exact HO4 | exact Lib.hid (World.ownsRow.alloc HO4.out _)); (first | with_reducible exact HW4 | exact Lib.hid (HW4.out.alloc HW4.out.size _)); intro v5 w5 HO5 HW5; clear HO4 HW4 HG4))
        all_goals
          go_simp
          go_roundw
          case rel =>
            repeat apply Exists.intro
            exact ⟨⟨q, _, false, rfl, rfl, by omega, HR2, HO5, HW5⟩, rfl⟩
          case measure => simp [intOf]; omega
      | false =>
        have HE2 := Lib.hid (HE.out)
        have hRe := Bk.rd_end H.out hN
        rw [hRe] at HE2
        clear hRe
        have HN := Lib.hid hN
        clear hN
        have hz : Bk.sumA l ≤ e + 1 := H.out.2.1
        have hlz := Bk.len_sumA l
        obtain ⟨ad, cp, hv, hst, hcap⟩ := own_strs HO.out (by omega)
        subst hv
        have HST := Lib.hid hst
        have HZ : Hid (Bk.sumZ l l.length ≤ 140737488355328) := Lib.hid (by have h : Bk.sumZ l l.length = Bk.sumA l := rfl; omega)
        clear hst hcap hz hlz
        have hfs := Bk.firstN_le (s := s) (k := e) (m := s.size) hes
        have hway : (fl = true ∨ (fl = false ∧ o = true) ∨ (fl = false ∧ o = false ∧ ¬ Bk.firstN s e s.size < s.size) ∨ (fl = false ∧ o = false ∧ Bk.firstN s e s.size < s.size ∧ (bt s (Bk.firstN s e s.size) == 58) = false) ∨
            (fl = false ∧ o = false ∧ Bk.firstN s e s.size < s.size ∧ (bt s (Bk.firstN s e s.size) == 58) = true ∧ Bk.stopsB s (Bk.firstN s e s.size) false = false)) ∨
            (fl = false ∧ o = false ∧ Bk.firstN s e s.size < s.size ∧ (bt s (Bk.firstN s e s.size) == 58) = true ∧ Bk.stopsB s (Bk.firstN s e s.size) false = true) := by
          cases fl with
          | true => exact .inl (.inl rfl)
          | false =>
            cases o with
            | true => exact .inl (.inr (.inl ⟨rfl, rfl⟩))
            | false =>
              by_cases h1 : Bk.firstN s e s.size < s.size
              · cases h2 : (bt s (Bk.firstN s e s.size) == 58) with
                | false => exact .inl (.inr (.inr (.inr (.inl ⟨rfl, rfl, h1, rfl⟩))))
                | true =>
                  cases h3 : Bk.stopsB s (Bk.firstN s e s.size) false with
                  | false => exact .inl (.inr (.inr (.inr (.inr ⟨rfl, rfl, h1, rfl, rfl⟩))))
                  | true => exact .inr ⟨rfl, rfl, h1, rfl, rfl⟩
              · exact .inl (.inr (.inr (.inl ⟨rfl, rfl, h1⟩)))
        rcases hway with hway | ⟨rfl, rfl, h1, h2, h3⟩
        · have HF : Hid (Bk.readS s k n fl = (Bk.foldFlow l, e, o, 0)) := Lib.hid (by
            rw [HE2.out]
            show (if (!fl && !o && Bk.colonB s e) = true then _ else _) = _
            rw [if_neg]
            unfold Bk.colonB
            rcases hway with rfl | ⟨rfl, rfl⟩ | ⟨rfl, rfl, h⟩ | ⟨rfl, rfl, h, h'⟩ | ⟨rfl, rfl, h, h', h''⟩
            · simp
            · simp
            · rw [decide_eq_false h]; simp
            · rw [h']; simp
            · rw [h'']; simp)
          rcases hway with rfl | ⟨rfl, rfl⟩ | ⟨rfl, rfl, h1⟩ | ⟨rfl, rfl, h1, h2⟩ | ⟨rfl, rfl, h1, h2, h3⟩
          all_goals
            go_wp2_with first
              | (go_at_call 87; refine (next_any s _ n _ _ (by omega) hes).mono ?_; rintro e1 w2 ⟨rfl, hg⟩; replace HST := Lib.hid (HST.out.below hg); replace HW := Lib.hid (HW.out.trans (hg.mono HW.out.size)); clear hg; simp only [HN.out])
              | (go_at_call 88; refine (white88_any s _ _ (by omega)).mono ?_; rintro e1 w2 ⟨rfl, rfl⟩)
              | (go_at_call 89; refine (stops_any s _ _ _ (by omega) (by omega)).mono ?_; rintro e1 w2 ⟨rfl, rfl⟩)
              | (go_at_call 55; refine (flow55_any _ _ _ l _ HST.out HZ.out).mono ?_; rintro e1 w2 ⟨rfl, hg⟩; replace HW := Lib.hid (HW.out.trans (hg.mono HW.out.size)); clear hg)
            refine bodyPost_ret (v := .tuple #[.string (Bk.foldFlow l), .int .i64 e, .bool _, .int .i64 0]) (by simp [results, Try.results63, go_sem]; try rfl) rfl ⟨by rw [HF.out], HW.out⟩
        · have HF : Hid (Bk.readS s k n false = (ByteArray.empty, Bk.firstN s e s.size, false, 5)) := Lib.hid (by
            rw [HE2.out]
            show (if (!false && !false && Bk.colonB s e) = true then _ else _) = _
            rw [if_pos]
            unfold Bk.colonB
            rw [decide_eq_true h1, h2, h3]; rfl)
          go_wp2_with first
            | (go_at_call 87; refine (next_any s _ n _ _ (by omega) hes).mono ?_; rintro e1 w2 ⟨rfl, hg⟩; replace HST := Lib.hid (HST.out.below hg); replace HW := Lib.hid (HW.out.trans (hg.mono HW.out.size)); clear hg; simp only [HN.out])
            | (go_at_call 88; refine (white88_any s _ _ (by omega)).mono ?_; rintro e1 w2 ⟨rfl, rfl⟩)
            | (go_at_call 89; refine (stops_any s _ _ _ (by omega) (by omega)).mono ?_; rintro e1 w2 ⟨rfl, rfl⟩)
          refine bodyPost_ret (v := .tuple #[.string ByteArray.empty, .int .i64 (Bk.firstN s e s.size : Nat), .bool false, .int .i64 5]) (by simp [results, Try.results63, go_sem]; try rfl) rfl ⟨by rw [HF.out], HW.out⟩
end Go.Proofs.Ytmmhpejnfkienaa
