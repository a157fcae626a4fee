/- A run on abstract values: any operation, a row of operations, a region in whatever order. -/
import Derived.Test.YtlmjabnkjmfcmaaGreatHm2
import Derived.Orders
import Derived.RegionTactic
import Derived.LoopN
import Derived.Laws.Sem
import Derived.Test.YtlmjabnkjmfcmaaGreatProg
namespace Go.Proofs.YtlmjabnkjmfcmaaGreat
open Go Go.RowKit Go.PlainAid
set_option linter.unusedVariables false
set_option linter.unusedSimpArgs false
namespace Ab
variable {lim lim' : Nat → Nat} {bs bs' : List Nat} {w w' : World} {P : Program} {T : Tab} {a : Act} {o : Oper} {cs : List (List AV)} {out : Out} {m : Nat → Prop} {bx bx' : List (List AV)} {S S' : Slots} {K : Act → World → Prop} {Q : Exit → Act → World → Prop} {cal : Cal} {σ σ' : ASt}
theorem with1_some {α β : Type} {x : Option α} {f : α → Option β} {b : β} (h : with1 x f = some b) : ∃ y, x = some y ∧ f y = some b := by
  unfold with1 at h
  split at h
  · cases h
  · exact ⟨_, rfl, h⟩
theorem conts_nil {bx : List (List AV)} {cs : List (List AV)} (h : conts bx [] = some cs) : cs = [] := by rw [conts] at h; cases h; rfl
theorem idOf_cases (x : AV) : (∃ i o, x = .ptr i o ∧ idOf x = [i]) ∨ idOf x = [] := by cases x <;> first | exact .inr rfl | exact .inl ⟨_, _, rfl, rfl⟩
theorem touch_builtin {ρ : Operand → AV} {bx : List (List AV)} {c : Call} {b : Builtin} (h : c.callee = .builtin b) : touch ρ bx (.call c) = [] := by
  obtain ⟨x, y, z⟩ := c; cases h; rfl
theorem touch_value {ρ : Operand → AV} {bx : List (List AV)} {c : Call} {f : Operand} (h : c.callee = .value f) : touch ρ bx (.call c) = reach 1000000 bx (AV.ids (ρ f) ++ AV.idss (c.args.toList.map ρ)) [] := by
  obtain ⟨x, y, z⟩ := c; cases h; rfl
/-- A new slice that has nothing, with some room. -/
theorem mslice_goes (HT : TOK P T) (H : Hold lim bs w σ.bx (Sl σ.tm a) m) (hm : ∀ b, w.heap.size ≤ b → m b) (hd : ∀ k, o.dst = some k → k < a.tmps.size) {t e : Nat} {d : TD} {n c : Operand} (ho : o.op = .makeSlice t n c) (ht : elT T t = some (e, d)) {X Y : AV} (hn : Av lim bs w X (a.eval n)) (hc : Av lim bs w Y (a.eval c))
    (h : cMakeSlice e d X Y cs = some out) (hok : out.ok = true) (hK : Kont m lim bs w a (fin o.dst out [] [] σ) K) : o.wp P a w K Q := by
  unfold cMakeSlice at h
  split at h
  case h_2 => cases h
  rename_i kn n'
  split at h
  case h_2 => cases h
  rename_i kc c'
  have := yesIf_inv h; subst this
  simp only [Bool.and_eq_true, decide_eq_true_eq] at hok
  obtain ⟨⟨⟨⟨⟨k1, k2⟩, k3⟩, k4⟩, k5⟩, k6⟩ := hok
  have hml : c'.toNat ≤ maxLen := by
    have : (100000 : Nat) ≤ maxLen := by decide
    omega
  have hn1 := hn.r
  have hc1 := hc.r
  rw [AV.R] at hn1 hc1
  subst k1
  obtain ⟨hu, he⟩ := elT_und HT ht
  obtain ⟨i, z, hi, hs, hby, hz, hzc, hzr⟩ := HT.info e d he
  have hrun : (execOp a.eval o).run P w = .ok (.value (.slice (some ⟨w.heap.size, 0, none⟩) 0 c'.toNat)) (w.alloc (.cells (madeCells z.cells (c'.toNat * i.size)) e)) := by
    unfold execOp
    simp only [ho, hn1, hc1]
    have hb : (i.bytes : Int) * c' ≤ 281474976710656 := by
      have h1 : (i.bytes : Int) ≤ 1000 := by rw [hby]; omega
      have h2 : (i.bytes : Int) * c' ≤ 1000 * c' := Int.mul_le_mul_of_nonneg_right h1 k2
      omega
    rw [Sem.run_bind, run_make w t e i z hu hi hz kn kc 0 c' (Int.le_refl _) k2 hb (by omega)]; rfl
  obtain ⟨H2, hfr, hown⟩ := H.grow (w' := w.alloc (.cells (madeCells z.cells (c'.toNat * i.size)) e)) (g := w.heap.size) (n := 0) (fun hb => Nat.lt_irrefl _ (bs_lt H hb)) (hm _ (Nat.le_refl _)) (by rw [alloc_size]; omega) (by rw [alloc_size]; omega) (alloc_bel w _) (fun k hk _ => alloc_old w _ hk) (fun p hp => Nat.lt_irrefl _ (Own.lt H hp)) (.inr ⟨rfl, alloc_size w _⟩) (by rw [H.top _ (Nat.le_refl _)]; omega) (fun j hj => absurd hj (Nat.lt_irrefl _)) (fun cur e p hh => absurd (lt_of_heap hh) (Nat.lt_irrefl _))
  refine wp_val hrun (hK _ bs _ _ ⟨?_, hfr, fun _ _ h => h, put_size _ _ _, put_defers _ _ _⟩)
  show Hold _ bs _ (setMany σ.bx [] cs ++ []) (Sl (putD σ.tm o.dst (.row e d.size 0 [])) (a.put o.dst _)) m
  rw [List.append_nil, setMany_nil, Sl_putD hd]
  refine H2.putD (row_R (Nat.zero_mul _).symm rfl (alloc_new w _) (Nat.zero_le _) ?_ (by rw [size_madeCells, hs]) (by simp) ⟨[], by rw [AV.Rs], by rw [Nat.zero_mul, List.take_zero]⟩) (by rw [AV.top]; rfl) (fun k g _ _ hg => ?_)
  · exact hml
  · have hg' : w.heap.size = g := by simpa [Value.ownBlock] using hg
    subst hg'
    exact ⟨hm _ (Nat.le_refl _), fun hb => Nat.lt_irrefl _ (bs_lt H hb), fun p hp => absurd (Own.lt H (hown p _ hp)) (Nat.lt_irrefl _)⟩
theorem op_sound (HT : TOK P T) (HC : CallsOK P cal) (H : Hold lim bs w σ.bx (Sl σ.tm a) m) (hm : ∀ b, w.heap.size ≤ b → m b) (hd : ∀ k, o.dst = some k → k < a.tmps.size) {md : Md} (h : aOp cal T md o σ = some σ') (hK : Kont m lim bs w a σ' K) : o.wp P a w K Q := by
  unfold aOp aOp1 at h
  split at h
  · cases h
  rename_i cs hcs
  split at h
  · cases h
  rename_i out hcore
  have hok : out.ok = true := by
    by_cases hh : out.ok = true
    · exact hh
    · rw [if_neg hh] at h; cases h
  rw [if_pos hok] at h
  cases h
  have V := fun x => val_Av H x
  unfold core at hcore
  split at hcore
  · -- move
    rename_i x ho
    rw [ho] at hcs hK
    have hc0 := conts_nil (show conts σ.bx [] = some cs from hcs)
    subst hc0
    cases hA : isAd md.ad o.dst with
    | true =>
      rw [hA] at hcore hK
      have := yes_inv hcore; subst this
      exact move_goes H hd (.inl ho) (V x).1.r (V x).1.t (fun hr => .inl ((V x).2 hr)) hK
    | false =>
      rw [hA] at hcore hK
      exact pure_goes H hd (s_move ho (V x).1 hcore) _ hK
  · -- assign
    rename_i x ho
    rw [ho] at hcs hK
    have hc0 := conts_nil (show conts σ.bx [] = some cs from hcs)
    subst hc0
    have := yes_inv hcore; subst this
    exact move_goes H hd (.inr ho) (V x).1.r (V x).1.t (fun hr => .inl ((V x).2 hr)) hK
  · rename_i c x y ho
    rw [ho] at hcs hK
    have hc0 := conts_nil (show conts σ.bx [] = some cs from hcs)
    subst hc0
    exact pure_goes H hd (s_pick ho (V c).1 (V x).1 (V y).1 hcore) _ hK
  · -- alloc
    rename_i t ho
    rw [ho] at hcs hK
    have hc0 := conts_nil (show conts σ.bx [] = some cs from hcs)
    subst hc0
    obtain ⟨d, ht, hc⟩ := with1_some hcore
    unfold cMake at hc
    cases hc
    obtain ⟨Vv, hrun, hz⟩ := alloc_run (w := w) (a := a) HT ho ht
    obtain ⟨z1, z2, z3, z4⟩ := zrs_R (lim := lim) (bs := bs) (w := w) hz
    exact make_goes H hm hd hrun z1 z2 (fun j y v hy hv hr => by rw [z4 j y v hy hv hr]; rfl) hK
  · -- box
    rename_i t x ho
    rw [ho] at hcs hK
    have hc0 := conts_nil (show conts σ.bx [] = some cs from hcs)
    subst hc0
    unfold cMake at hcore
    cases hcore
    rw [Bool.and_eq_true] at hok
    have hcl := cells_R hok.1 (V x).1.r.dem
    have hfl : AV.flats (cells (val σ.tm x).dem) = true := by
      have : ∀ y : AV, y.flat = true → AV.flats (cells y) = true := by
        intro y hy
        cases y <;> first
          | (show AV.flats [_] = true; rw [AV.flats, hy]; rfl)
          | exact hy
      exact this _ hok.2
    exact make_goes H hm hd (box_run ho) hcl (tops_of_flats hfl) (fun j y v hy hv hr => by rw [flat_row (flats_get hfl hy)] at hr; cases hr) hK
  · -- build
    rename_i t ps ho
    rw [ho] at hcs hK
    have hc0 := conts_nil (show conts σ.bx [] = some cs from hcs)
    subst hc0
    obtain ⟨d, ht, hc⟩ := with1_some hcore
    exact pure_goes H hd (s_build HT ho ht (Ps_of H ps.toList) hc hok) _ hK
  · rename_i t len ps ho
    rw [ho] at hcs hK
    have hc0 := conts_nil (show conts σ.bx [] = some cs from hcs)
    subst hc0
    obtain ⟨⟨e, d⟩, ht, hc⟩ := with1_some hcore
    exact bslice_goes HT H hm hd ho ht (Ps_of H ps.toList) hc hok hK
  · rename_i t n c ho
    rw [ho] at hcs hK
    have hc0 := conts_nil (show conts σ.bx [] = some cs from hcs)
    subst hc0
    obtain ⟨⟨e, d⟩, ht, hc⟩ := with1_some hcore
    exact mslice_goes HT H hm hd ho ht (V n).1 (V c).1 hc hok hK
  · -- load
    rename_i t x ho
    rw [ho] at hcs hK
    obtain ⟨d, ht, hc⟩ := with1_some hcore
    rcases idOf_cases (val σ.tm x) with ⟨i, o', he, hid⟩ | hid
    · have hcs2 : conts σ.bx [i] = some cs := by
        rw [show touch (val σ.tm) σ.bx (.load t x) = idOf (val σ.tm x) from rfl, hid] at hcs; exact hcs
      rw [show touch (val σ.tm) σ.bx (.load t x) = idOf (val σ.tm x) from rfl, hid] at hK
      obtain ⟨c, hc1, rfl⟩ := conts_one hcs2
      rw [he] at hc
      have hR := (V x).1.r
      rw [he] at hR
      exact load_goes HT H hd ho ht hR hc1 hc hok (fun hA => by
        cases hdst : o.dst with
        | none => rw [hdst] at hA; cases hA
        | some k => rfl) hK
    · have hcs2 : conts σ.bx [] = some cs := by
        rw [show touch (val σ.tm) σ.bx (.load t x) = idOf (val σ.tm x) from rfl, hid] at hcs; exact hcs
      rw [show touch (val σ.tm) σ.bx (.load t x) = idOf (val σ.tm x) from rfl, hid] at hK
      have hc0 := conts_nil hcs2
      subst hc0
      cases hv : val σ.tm x <;> rw [hv] at hc hid <;> first
        | (cases hid; done)
        | (have hA := (V x).1; rw [hv] at hA; exact pure_goes H hd (s_load_el HT ho ht hA hc hok) _ hK)
        | (cases hc; done)
  · -- store
    rename_i t p x ho
    rw [ho] at hcs hK
    obtain ⟨d, ht, hc⟩ := with1_some hcore
    rcases idOf_cases (val σ.tm p) with ⟨i, o', he, hid⟩ | hid
    · have hcs2 : conts σ.bx [i] = some cs := by
        rw [show touch (val σ.tm) σ.bx (.store t p x) = idOf (val σ.tm p) from rfl, hid] at hcs; exact hcs
      rw [show touch (val σ.tm) σ.bx (.store t p x) = idOf (val σ.tm p) from rfl, hid] at hK
      obtain ⟨c, hc1, rfl⟩ := conts_one hcs2
      rw [he] at hc
      have hR := (V p).1.r
      rw [he] at hR
      exact store_goes HT H hd ho ht hR (V x).1 (V x).2 hc1 hc hok hK
    · cases hv : val σ.tm p <;> rw [hv] at hc hid <;> first | (cases hid; done) | (cases hc; done)
  · rename_i x ho
    rw [ho] at hcs hK
    have hc0 := conts_nil (show conts σ.bx [] = some cs from hcs)
    subst hc0
    exact pure_goes H hd (s_nil ho (V x).1 hcore) _ hK
  · rename_i op t x y t' ho
    rw [ho] at hcs hK
    have hc0 := conts_nil (show conts σ.bx [] = some cs from hcs)
    subst hc0
    exact pure_goes H hd (s_bin ho (V x).1 (V y).1 hcore hok) _ hK
  · rename_i op t x ho
    rw [ho] at hcs hK
    have hc0 := conts_nil (show conts σ.bx [] = some cs from hcs)
    subst hc0
    exact pure_goes H hd (s_not ho (V x).1 hcore) _ hK
  · rename_i s t x ho
    rw [ho] at hcs hK
    have hc0 := conts_nil (show conts σ.bx [] = some cs from hcs)
    subst hc0
    exact pure_goes H hd (s_conv HT ho (V x).1 hcore hok) _ hK
  · -- makeFunc
    rename_i fn first cap ho
    rw [ho] at hcs hK
    have hc0 := conts_nil (show conts σ.bx [] = some cs from hcs)
    subst hc0
    split at hcore
    · rename_i f
      split at hcore
      · rename_i hf
        obtain ⟨r1, r2⟩ := Rs_of_map H cap.toList
        rw [List.map_map] at r1 r2
        exact pure_goes H hd (s_func ho hf r1 r2 hcore) _ hK
      · cases hcore
    · cases hcore
  · -- slice
    rename_i t x lo hi mx ho
    rw [ho] at hcs hK
    have hc0 := conts_nil (show conts σ.bx [] = some cs from hcs)
    subst hc0
    split at hcore
    · cases hcore
    · rename_i hmx
      have hmx2 : mx = none := by cases mx <;> first | rfl | exact absurd rfl hmx
      subst hmx2
      exact pure_goes H hd (s_slice HT ho (V x).1 (fun y hy => ⟨_, by rw [hy]; rfl, (V y).1⟩) (fun hn => by rw [hn]; rfl) (fun y hy => ⟨_, by rw [hy]; rfl, (V y).1⟩) (fun hn => by rw [hn]; rfl) hcore hok) _ hK
  · rename_i t x f ho
    rw [ho] at hcs hK
    have hc0 := conts_nil (show conts σ.bx [] = some cs from hcs)
    subst hc0
    obtain ⟨d, ht, hc⟩ := with1_some hcore
    obtain ⟨q, hq, hc⟩ := with1_some hc
    exact pure_goes H hd (s_fieldAddr HT ho ht hq (V x).1 hc hok) _ hK
  · rename_i t x f ho
    rw [ho] at hcs hK
    have hc0 := conts_nil (show conts σ.bx [] = some cs from hcs)
    subst hc0
    obtain ⟨d, ht, hc⟩ := with1_some hcore
    obtain ⟨q, hq, hc⟩ := with1_some hc
    exact pure_goes H hd (s_field HT ho ht hq (V x).1 hc hok) _ hK
  · rename_i t x i ho
    rw [ho] at hcs hK
    have hc0 := conts_nil (show conts σ.bx [] = some cs from hcs)
    subst hc0
    obtain ⟨⟨e, d⟩, ht, hc⟩ := with1_some hcore
    exact pure_goes H hd (s_indexAddr HT ho ht (V x).1 (V i).1 hc hok) _ hK
  · rename_i t x i ho
    rw [ho] at hcs hK
    have hc0 := conts_nil (show conts σ.bx [] = some cs from hcs)
    subst hc0
    exact pure_goes H hd (s_index HT ho (V x).1 (V i).1 hcore hok) _ hK
  · rename_i x i ho
    rw [ho] at hcs hK
    have hc0 := conts_nil (show conts σ.bx [] = some cs from hcs)
    subst hc0
    exact pure_goes H hd (s_extract ho (V x).1 hcore) _ hK
  · -- call
    rename_i c ho
    rw [ho] at hcs hK
    split at hcore
    · rename_i b hb
      have htouch : touch (val σ.tm) σ.bx (.call c) = [] := touch_builtin hb
      rw [htouch] at hcs hK
      have hc0 := conts_nil hcs
      subst hc0
      unfold cBuiltin at hcore
      split at hcore
      · -- len
        split at hcore
        · rename_i X hX
          obtain ⟨x, hx, rfl⟩ : ∃ x, c.args.toList = [x] ∧ X = val σ.tm x := by
            cases hh : c.args.toList with
            | nil => rw [hh] at hX; cases hX
            | cons x r =>
              rw [hh] at hX
              cases r with
              | nil => simp only [List.map_cons, List.map_nil, List.cons.injEq, and_true] at hX; exact ⟨x, rfl, hX.symm⟩
              | cons y r => simp at hX
          have hargs : c.args = #[x] := by rw [← Array.toList_inj]; exact hx
          exact pure_goes H hd (s_len HT ho hb hargs (V x).1 hcore hok) _ hK
        · cases hcore
      · split at hcore
        · rename_i X Y hX
          obtain ⟨x, y, hx, rfl, rfl⟩ : ∃ x y, c.args.toList = [x, y] ∧ X = val σ.tm x ∧ Y = val σ.tm y := by
            cases hh : c.args.toList with
            | nil => rw [hh] at hX; cases hX
            | cons x r =>
              rw [hh] at hX
              cases r with
              | nil => simp at hX
              | cons y r =>
                cases r with
                | nil => simp only [List.map_cons, List.map_nil, List.cons.injEq, and_true] at hX; exact ⟨x, y, rfl, hX.1.symm, hX.2.symm⟩
                | cons z r => simp at hX
          have hargs : c.args = #[x, y] := by rw [← Array.toList_inj]; exact hx
          cases he : ext2 true (val σ.tm x) (val σ.tm y) with
          | none => rw [he] at hcore; cases hcore
          | some v =>
            rw [he] at hcore
            have := yes_inv hcore; subst this
            exact pure_goes H hd (s_ext (mx := true) ho hb hargs (V x).1 (V y).1 he) _ hK
        · cases hcore
      · split at hcore
        · rename_i X Y hX
          obtain ⟨x, y, hx, rfl, rfl⟩ : ∃ x y, c.args.toList = [x, y] ∧ X = val σ.tm x ∧ Y = val σ.tm y := by
            cases hh : c.args.toList with
            | nil => rw [hh] at hX; cases hX
            | cons x r =>
              rw [hh] at hX
              cases r with
              | nil => simp at hX
              | cons y r =>
                cases r with
                | nil => simp only [List.map_cons, List.map_nil, List.cons.injEq, and_true] at hX; exact ⟨x, y, rfl, hX.1.symm, hX.2.symm⟩
                | cons z r => simp at hX
          have hargs : c.args = #[x, y] := by rw [← Array.toList_inj]; exact hx
          cases he : ext2 false (val σ.tm x) (val σ.tm y) with
          | none => rw [he] at hcore; cases hcore
          | some v =>
            rw [he] at hcore
            have := yes_inv hcore; subst this
            exact pure_goes H hd (s_ext (mx := false) ho hb hargs (V x).1 (V y).1 he) _ hK
        · cases hcore
      · -- append
        split at hcore
        · rename_i X Y hX
          obtain ⟨x, y, hx, rfl, rfl⟩ : ∃ x y, c.args.toList = [x, y] ∧ X = val σ.tm x ∧ Y = val σ.tm y := by
            cases hh : c.args.toList with
            | nil => rw [hh] at hX; cases hX
            | cons x r =>
              rw [hh] at hX
              cases r with
              | nil => simp at hX
              | cons y r =>
                cases r with
                | nil => simp only [List.map_cons, List.map_nil, List.cons.injEq, and_true] at hX; exact ⟨x, y, rfl, hX.1.symm, hX.2.symm⟩
                | cons z r => simp at hX
          have hargs : c.args = #[x, y] := by rw [← Array.toList_inj]; exact hx
          split at hcore
          · rename_i t t' hts
            split at hcore
            · cases hcore
            · rename_i e d he
              have htt : t' = t := by
                unfold cAppend at hcore
                split at hcore
                · cases hcore
                · split at hcore
                  · cases hcore
                  · have := yesIf_inv hcore; subst this
                    simp only [Bool.and_eq_true, decide_eq_true_eq] at hok
                    exact hok.1.1.1.1.1.1
              subst htt
              have htys : c.argTypes = #[t', t'] := by rw [← Array.toList_inj]; exact hts
              rw [show decide (t' = t') = true by simp] at hcore
              have hg : gives (isAd md.ad o.dst) (.call c) = tmpOf x := by
                show appOf c = tmpOf x
                unfold appOf
                rw [hb]
                show firstOf c.args.toList = _
                rw [hx]; rfl
              rw [hg] at hK
              exact app_goes HT H hm hd ho hb hargs htys he (V x).1 (V x).2 (V y).1 hcore hok hK
          · cases hcore
        · cases hcore
      · cases hcore
    · rename_i f hf
      have htouch := touch_value (ρ := val σ.tm) (bx := σ.bx) hf
      have hg : gives (isAd md.ad o.dst) (.call c) = [] := by
        show appOf c = []
        unfold appOf; rw [hf]
      rw [ho] at hcore
      rw [hg] at hK
      exact call_goes HC H hm hd ho hf (by rw [htouch]; exact reach_nodup _ _ _ _ List.nodup_nil) hcs hcore hok hK
    · cases hcore
  · cases hcore
end Ab
end Go.Proofs.YtlmjabnkjmfcmaaGreat
/- A run on abstract values: append to what is a box; rows of operations. -/
namespace Go.Proofs.YtlmjabnkjmfcmaaGreat
open Go Go.RowKit Go.PlainAid
set_option linter.unusedVariables false
set_option linter.unusedSimpArgs false
namespace Ab
variable {lim lim' : Nat → Nat} {bs bs' : List Nat} {w w' : World} {P : Program} {T : Tab} {a : Act} {o : Oper} {cs : List (List AV)} {out : Out} {m : Nat → Prop} {bx bx' : List (List AV)} {S S' : Slots} {K : Act → World → Prop} {Q : Exit → Act → World → Prop} {cal : Cal} {σ σ' σ1 σ2 : ASt}
mutual
theorem ren_id : ∀ (x : AV), AV.ren id x = x
  | .ptr .. => rfl
  | .bsl .. => rfl
  | .bool _ => rfl
  | .int _ _ => rfl
  | .str _ => rfl
  | .nz _ => rfl
  | .nil => rfl
  | .unk _ => rfl
  | .low _ _ _ => rfl
  | .bad => rfl
  | .sl n l => by rw [AV.ren, rens_id l]
  | .row e z n l => by rw [AV.ren, rens_id l]
  | .el l => by rw [AV.ren, rens_id l]
  | .agg l => by rw [AV.ren, rens_id l]
  | .tup l => by rw [AV.ren, rens_id l]
  | .fn g l => by rw [AV.ren, rens_id l]
theorem rens_id : ∀ (l : List AV), AV.rens id l = l
  | [] => rfl
  | x :: l => by rw [AV.rens, ren_id x, rens_id l]
end
theorem R_env {x : AV} {v : Value} (hb : ∀ i ∈ x.ids, ∀ b, bs[i]? = some b → bs'[i]? = some b) (h : AV.R lim bs w x v) : AV.R lim bs' w x v := by
  have := AV.R.ren (f := id) (bs' := bs') hb h
  rw [ren_id] at this
  exact this
theorem Rs_env {x : List AV} {v : List Value} (hb : ∀ i ∈ AV.idss x, ∀ b, bs[i]? = some b → bs'[i]? = some b) (h : AV.Rs lim bs w x v) : AV.Rs lim bs' w x v := by
  have := AV.Rs.ren (f := id) (bs' := bs') hb h
  rw [rens_id] at this
  exact this
theorem nodup_of_inj : ∀ {l : List Nat}, (∀ (i j x : Nat), l[i]? = some x → l[j]? = some x → i = j) → l.Nodup
  | [], _ => List.nodup_nil
  | y :: l, h => by
    rw [List.nodup_cons]
    refine ⟨fun hm => ?_, nodup_of_inj fun i j x hi hj => ?_⟩
    · obtain ⟨k, hk, e⟩ := List.getElem_of_mem hm
      have := h 0 (k + 1) y rfl (by rw [List.getElem?_cons_succ, List.getElem?_eq_getElem hk, e])
      omega
    · have := h (i + 1) (j + 1) x (by simpa using hi) (by simpa using hj)
      omega
theorem set_get {α : Type} {l : List α} {i j : Nat} {x y : α} (h : (l.set i x)[j]? = some y) : (j = i ∧ y = x ∧ i < l.length) ∨ (j ≠ i ∧ l[j]? = some y) := by
  rw [List.getElem?_set] at h
  split at h
  · rename_i e
    split at h
    · rename_i hl; cases h; exact .inl ⟨e.symm, rfl, hl⟩
    · cases h
  · rename_i e; exact .inr ⟨fun h => e h.symm, h⟩
/-- A box moves to another block, or has new cells in its own. -/
theorem Hold.rebox (H : Hold lim bs w bx S m) {i b g : Nat} (hi : bs[i]? = some b) (hg : g = b ∨ (g ∉ bs ∧ ∀ p, ¬ Own w bs bx S p g)) (hmg : m g) (hlg : lim g = 0) (hoth : ∀ k, k < w.heap.size → k ≠ g → w'.heap[k]? = w.heap[k]?) (hfr : Fr m lim w lim w')
    {V tl : List Value} {e : TypeId} (hV : w'.heap[g]? = some (.cells (V ++ tl).toArray e (0, 0))) {x : List AV} (hR : AV.Rs lim bs w x V) (hx : AV.flats x = true) (hxi : i ∉ AV.idss x) (hS : ∀ k, i ∉ (S k).1.ids) (hB : ∀ (j : Nat) (c : List AV), bx[j]? = some c → j ≠ i → i ∉ AV.idss c) : Hold lim (bs.set i g) w' (bx.set i x) S m := by
  have hil : i < bs.length := (List.getElem?_eq_some_iff.1 hi).1
  have henv : ∀ {l : List Nat}, i ∉ l → ∀ j ∈ l, ∀ b', bs[j]? = some b' → (bs.set i g)[j]? = some b' := by
    intro l hl j hj b' hb'
    rw [List.getElem?_set, if_neg (fun e => hl (by rw [e]; exact hj))]; exact hb'
  have hext : AV.Ext lim bs w lim bs w' := hfr.ext (fun _ _ h => h)
  have hgo : ∀ p g', Own w bs bx S p g' → g' ≠ g := by
    rintro p g' hp rfl
    rcases hg with rfl | ⟨-, h⟩
    · exact (H.own p _ hp).2 (List.mem_of_getElem? hi)
    · exact h p hp
  have hgb : ∀ j b', j ≠ i → bs[j]? = some b' → b' ≠ g := by
    rintro j b' hj hb' rfl
    rcases hg with rfl | ⟨h, -⟩
    · exact hj (nodup_inj H.nod hb' hi)
    · exact h (List.mem_of_getElem? hb')
  have hmem : ∀ b', b' ∈ bs.set i g → b' = g ∨ b' ∈ bs := by
    intro b' h
    obtain ⟨j, hj, e⟩ := List.getElem_of_mem h
    rcases set_get (List.getElem?_eq_getElem hj) with ⟨-, h2, -⟩ | ⟨-, h2⟩
    · exact .inl (by rw [← e, h2])
    · exact .inr (by rw [← e]; exact List.mem_of_getElem? h2)
  have ho : ∀ p g', Own w' (bs.set i g) (bx.set i x) S p g' → Own w bs bx S p g' := by
    intro p g' hp
    cases p with
    | t k => exact hp
    | b j k =>
      obtain ⟨b', c, y, v, q1, q2, q3, q4, q5, q6⟩ := hp
      rcases set_get q2 with ⟨e, rfl, -⟩ | ⟨hj, q2⟩
      · rw [flat_row (flats_get hx q3)] at q4; cases q4
      · rw [List.getElem?_set, if_neg (fun e => hj e.symm)] at q1
        exact ⟨b', c, y, v, q1, q2, q3, q4, by rw [← World.cell?_of_block (w' := w') (hoth b' (bs_lt H (List.mem_of_getElem? q1)) (hgb j b' hj q1))]; exact q5, q6⟩
  refine ⟨by rw [List.length_set, List.length_set]; exact H.len, nodup_of_inj fun j k y hj hk => ?_, fun b' hb' => ?_, fun b' hb' => ?_, fun j b' c hj hc => ?_, fun k => ?_, H.slotT, fun b' hb' => H.top b' (Nat.le_trans hfr.bel.size hb'), fun p g' hp => ⟨(H.own p g' (ho p g' hp)).1, fun h => ?_⟩, fun p q g' hp hq => H.dist p q g' (ho p g' hp) (ho q g' hq)⟩
  · rcases set_get hj with ⟨e1, e2, -⟩ | ⟨n1, h1⟩
    · rcases set_get hk with ⟨e3, -, -⟩ | ⟨n2, h2⟩
      · rw [e1, e3]
      · exact absurd e2 (hgb k y n2 h2)
    · rcases set_get hk with ⟨e3, e4, -⟩ | ⟨n2, h2⟩
      · exact absurd e4 (hgb j y n1 h1)
      · exact nodup_inj H.nod h1 h2
  · rcases hmem b' hb' with rfl | h
    · exact hlg
    · exact H.free b' h
  · rcases hmem b' hb' with rfl | h
    · exact hmg
    · exact H.mb b' h
  · rcases set_get hc with ⟨e1, rfl, -⟩ | ⟨n1, hc⟩
    · subst e1
      rw [List.getElem?_set, if_pos rfl, if_pos hil] at hj
      cases hj
      exact ⟨V, tl, e, hV, Rs_env (henv hxi) (AV.Rs.ext hext hx hR), tops_of_flats hx⟩
    · rw [List.getElem?_set, if_neg (fun e => n1 e.symm)] at hj
      obtain ⟨C, tl2, t2, g1, g2, g3⟩ := H.box j b' c hj hc
      refine ⟨C, tl2, t2, (hoth b' (lt_of_heap g1) (hgb j b' n1 hj)).trans g1, Rs_env (henv (hB j c hc n1)) (Rs_keep hext g3 (fun k y v g' hy hv hr hgg => ?_) g2), g3⟩
      have hown : Own w bs bx S (.b j k) g' := ⟨b', c, y, v, hj, hc, hy, hr, heap_cellP g1 hv, hgg⟩
      exact ⟨hoth g' (Own.lt H hown) (hgo _ _ hown), rfl⟩
  · exact R_env (henv (hS k)) (AV.R.keep hext (H.slotT k) (fun g' h1 h2 => ⟨hoth g' (Own.lt H (p := .t k) ⟨h1, h2⟩) (hgo (.t k) g' ⟨h1, h2⟩), rfl⟩) (H.slot k))
  · rcases hmem g' h with e | h
    · exact hgo p g' (ho p g' hp) e
    · exact (H.own p g' (ho p g' hp)).2 h
/-- A block becomes a box. -/
theorem Hold.push (H : Hold lim bs w bx S m) {g : Nat} (hg : g ∉ bs) (hgo : ∀ p, ¬ Own w bs bx S p g) (hmg : m g) (hlg : lim g = 0) {V tl : List Value} {e : TypeId} (hV : w.heap[g]? = some (.cells (V ++ tl).toArray e (0, 0))) {x : List AV} (hR : AV.Rs lim bs w x V) (hx : AV.flats x = true) : Hold lim (bs ++ [g]) w (bx ++ [x]) S m := by
  have hids : ∀ (i b : Nat), bs[i]? = some b → (bs ++ [g])[i]? = some b := fun i b h => by
    rw [get?_append_one, if_neg (fun e => by subst e; simp at h)]; exact h
  have hext : AV.Ext lim bs w lim (bs ++ [g]) w := ⟨hids, Nat.le_refl _, fun _ _ => Nat.le_refl _, fun _ _ _ _ => rfl, fun b cur e p h => ⟨cur, h, rfl⟩⟩
  have ho : ∀ p g', Own w (bs ++ [g]) (bx ++ [x]) S p g' → Own w bs bx S p g' := by
    intro p g' hp
    cases p with
    | t k => exact hp
    | b j k =>
      obtain ⟨b', c, y, v, q1, q2, q3, q4, q5, q6⟩ := hp
      rw [get?_append_one] at q1 q2
      rw [← H.len] at q2
      split at q2
      · cases q2
        rw [flat_row (flats_get hx q3)] at q4; cases q4
      · rename_i e
        rw [if_neg e] at q1
        exact ⟨b', c, y, v, q1, q2, q3, q4, q5, q6⟩
  refine ⟨by rw [List.length_append, List.length_append, H.len]; rfl, ?_, fun b' hb' => ?_, fun b' hb' => ?_, fun j b' c hj hc => ?_, fun k => ?_, H.slotT, H.top, fun p g' hp => ⟨(H.own p g' (ho p g' hp)).1, fun h => ?_⟩, fun p q g' hp hq => H.dist p q g' (ho p g' hp) (ho q g' hq)⟩
  · rw [List.nodup_append]
    exact ⟨H.nod, by simp, fun x hx y hy e => by rw [List.mem_singleton.1 hy] at e; exact hg (e ▸ hx)⟩
  · rcases List.mem_append.1 hb' with h | h
    · exact H.free b' h
    · rw [List.mem_singleton.1 h]; exact hlg
  · rcases List.mem_append.1 hb' with h | h
    · exact H.mb b' h
    · rw [List.mem_singleton.1 h]; exact hmg
  · rw [get?_append_one] at hj hc
    rw [← H.len] at hc
    split at hj
    · rename_i e1
      cases hj
      rw [if_pos e1] at hc; cases hc
      exact ⟨V, tl, e, hV, AV.Rs.ext hext hx hR, tops_of_flats hx⟩
    · rename_i e1
      rw [if_neg e1] at hc
      obtain ⟨C, tl2, t2, g1, g2, g3⟩ := H.box j b' c hj hc
      exact ⟨C, tl2, t2, g1, Rs_keep hext g3 (fun _ _ _ _ _ _ _ _ => ⟨rfl, rfl⟩) g2, g3⟩
  · exact AV.R.keep hext (H.slotT k) (fun _ _ _ => ⟨rfl, rfl⟩) (H.slot k)
  · rcases List.mem_append.1 h with h | h
    · exact (H.own p g' (ho p g' hp)).2 h
    · rw [List.mem_singleton.1 h] at hp
      exact hgo p (ho p g hp)
theorem killV_cases (i : Nat) (x : AV) : (killV i x = x ∧ i ∉ x.ids) ∨ killV i x = .bad := by
  unfold killV
  split
  · exact .inr rfl
  · rename_i h
    exact .inl ⟨rfl, fun hm => by rw [mem_iff.2 hm] at h; cases h⟩
theorem killV_ids (i : Nat) (x : AV) : i ∉ (killV i x).ids := by
  rcases killV_cases i x with ⟨e, h⟩ | e
  · rw [e]; exact h
  · rw [e]; simp [AV.ids]
theorem get_kill (i : Nat) : ∀ (tm : Tm) (k : Nat), get (tm.map fun p => (p.1, killV i p.2)) k = killV i (get tm k)
  | [], k => by unfold killV; rfl
  | (j, v) :: r, k => by
    rw [List.map_cons, get_cons, get_cons]
    split
    · rfl
    · exact get_kill i r k
theorem Rs_kill (i : Nat) : ∀ {x : List AV} {c : List Value}, AV.Rs lim bs w x c → AV.Rs lim bs w (x.map (killV i)) c
  | [], c, h => h
  | y :: x, c, h => by
    rw [AV.Rs] at h
    obtain ⟨v, r, rfl, h1, h2⟩ := h
    rw [List.map_cons, AV.Rs]
    refine ⟨v, r, rfl, ?_, Rs_kill i h2⟩
    rcases killV_cases i y with ⟨e, -⟩ | e
    · rw [e]; exact h1
    · rw [e]; exact R_bad _
/-- Nothing points to a box any more. -/
theorem Hold.kill (H : Hold lim bs w σ.bx (Sl σ.tm a) m) (i : Nat) : Hold lim bs w (kill i σ).bx (Sl (kill i σ).tm a) m ∧ (∀ p g, Own w bs (Ab.kill i σ).bx (Sl (Ab.kill i σ).tm a) p g → Own w bs σ.bx (Sl σ.tm a) p g) ∧ (∀ k, i ∉ (get (Ab.kill i σ).tm k).ids) ∧ ∀ (j : Nat) (c : List AV), (Ab.kill i σ).bx[j]? = some c → i ∉ AV.idss c := by
  have hget : ∀ k, get (Ab.kill i σ).tm k = killV i (get σ.tm k) := fun k => get_kill i σ.tm k
  have hbx : ∀ (j : Nat) (c : List AV), (Ab.kill i σ).bx[j]? = some c → ∃ c0, σ.bx[j]? = some c0 ∧ c = c0.map (killV i) := by
    intro j c h
    have h' : (σ.bx.map fun c => c.map (killV i))[j]? = some c := h
    rw [List.getElem?_map] at h'
    cases hc : σ.bx[j]? with
    | none => rw [hc] at h'; cases h'
    | some c0 => rw [hc] at h'; cases h'; exact ⟨c0, rfl, rfl⟩
  have ho : ∀ p g, Own w bs (Ab.kill i σ).bx (Sl (Ab.kill i σ).tm a) p g → Own w bs σ.bx (Sl σ.tm a) p g := by
    intro p g hp
    cases p with
    | t k =>
      obtain ⟨h1, h2⟩ := hp
      have h1' : (get (Ab.kill i σ).tm k).isRow = true := h1
      rw [hget] at h1'
      rcases killV_cases i (get σ.tm k) with ⟨e, -⟩ | e
      · rw [e] at h1'; exact ⟨h1', h2⟩
      · rw [e] at h1'; cases h1'
    | b j k =>
      obtain ⟨b', c, y, v, q1, q2, q3, q4, q5, q6⟩ := hp
      obtain ⟨c0, h1, rfl⟩ := hbx j c q2
      rw [List.getElem?_map] at q3
      cases hy : c0[k]? with
      | none => rw [hy] at q3; cases q3
      | some y0 =>
        rw [hy] at q3
        simp only [Option.map_some, Option.some.injEq] at q3
        subst q3
        rcases killV_cases i y0 with ⟨e, -⟩ | e
        · rw [e] at q4; exact ⟨b', c0, y0, v, q1, h1, hy, q4, q5, q6⟩
        · rw [e] at q4; cases q4
  refine ⟨⟨by rw [H.len]; show _ = (σ.bx.map _).length; rw [List.length_map], H.nod, H.free, H.mb, fun j b c hj hc => ?_, fun k => ?_, fun k => ?_, H.top, fun p g hp => H.own p g (ho p g hp), fun p q g hp hq => H.dist p q g (ho p g hp) (ho q g hq)⟩, ho, fun k => by rw [hget]; exact killV_ids _ _, fun j c hc => ?_⟩
  · obtain ⟨c0, h1, rfl⟩ := hbx j c hc
    obtain ⟨C, tl, t, g1, g2, g3⟩ := H.box j b c0 hj h1
    refine ⟨C, tl, t, g1, Rs_kill i g2, ?_⟩
    rw [List.all_map, List.all_eq_true]
    rw [List.all_eq_true] at g3
    intro y hy
    show (killV i y).top = true
    rcases killV_cases i y with ⟨e, -⟩ | e
    · rw [e]; exact g3 y hy
    · rw [e]; rfl
  · show AV.R lim bs w (get (Ab.kill i σ).tm k) (a.tmps.getD k undef)
    rw [hget]
    rcases killV_cases i (get σ.tm k) with ⟨e, -⟩ | e
    · rw [e]; exact H.slot k
    · rw [e]; exact R_bad _
  · show (get (Ab.kill i σ).tm k).top = true
    rw [hget]
    rcases killV_cases i (get σ.tm k) with ⟨e, -⟩ | e
    · rw [e]; exact H.slotT k
    · rw [e]; rfl
  · obtain ⟨c0, h1, rfl⟩ := hbx j c hc
    intro hm
    obtain ⟨y, hy, hi⟩ := AV.idss_mem.1 hm
    obtain ⟨z, -, rfl⟩ := List.mem_map.1 hy
    exact killV_ids _ _ hi
/-! ### What must be shown of what follows, where boxes from a number on may move -/
structure GoesB (n0 : Nat) (m : Nat → Prop) (lim : Nat → Nat) (bs : List Nat) (w : World) (a : Act) (σ' : ASt) (lim' : Nat → Nat) (bs' : List Nat) (w' : World) (a' : Act) : Prop where
  hold : Hold lim' bs' w' σ'.bx (Sl σ'.tm a') m
  fr : Fr m lim w lim' w'
  pre : ∀ (i b : Nat), i < n0 → bs[i]? = some b → bs'[i]? = some b
  nt : a'.tmps.size = a.tmps.size
  df : a'.defers = a.defers
abbrev KontB (n0 : Nat) (m : Nat → Prop) (lim : Nat → Nat) (bs : List Nat) (w : World) (a : Act) (σ' : ASt) (K : Act → World → Prop) : Prop := ∀ lim' bs' w' a', GoesB n0 m lim bs w a σ' lim' bs' w' a' → K a' w'
theorem Goes.B {n0 : Nat} {a' : Act} (h : Goes m lim bs w a σ' lim' bs' w' a') : GoesB n0 m lim bs w a σ' lim' bs' w' a' := ⟨h.hold, h.fr, fun i b _ hb => h.pre i b hb, h.nt, h.df⟩
theorem KontB.all {n0 : Nat} (h : KontB n0 m lim bs w a σ' K) : Kont m lim bs w a σ' K := fun lim' bs' w' a' hg => h lim' bs' w' a' hg.B
theorem GoesB.trans {n0 : Nat} {lim1 : Nat → Nat} {bs1 : List Nat} {w1 : World} {a1 a' : Act} (h : GoesB n0 m lim bs w a σ1 lim1 bs1 w1 a1) (k : GoesB n0 m lim1 bs1 w1 a1 σ' lim' bs' w' a') : GoesB n0 m lim bs w a σ' lim' bs' w' a' :=
  ⟨k.hold, h.fr.trans k.fr, fun i b hi hb => k.pre i b hi (h.pre i b hi hb), k.nt.trans h.nt, k.df.trans h.df⟩
theorem lim_same {lim : Nat → Nat} {g : Nat} (h : lim g = 0) : (fun b => if b = g then 0 else lim b) = lim := by
  funext b
  split
  · rename_i e; rw [e, h]
  · rfl
theorem app_box (HT : TOK P T) (H : Hold lim bs w σ.bx (Sl σ.tm a) m) (hm : ∀ b, w.heap.size ≤ b → m b) {dd : Nat} (hd : dd < a.tmps.size) (hdst : o.dst = some dd) {c : Call} {t : Nat} {s x : Operand} (ho : o.op = .call c) (hcal : c.callee = .builtin .append) (hargs : c.args = #[s, x]) (htys : c.argTypes = #[t, t])
    {md : Md} (h : aApp T md dd σ s x t = some σ') (hK : KontB md.base m lim bs w a σ' K) : o.wp P a w K Q := by
  unfold aApp at h
  split at h
  · cases h
  rename_i e d ht
  split at h
  · cases h
  rename_i m' k hel
  split at h
  case isFalse => cases h
  rename_i hcond
  obtain ⟨km, k2, k3, k4, k5, k7⟩ := hcond
  obtain ⟨hu, he⟩ := elT_und HT ht
  obtain ⟨inf, zv, hi, hsz, hby, hz, hzc, hzr⟩ := HT.info e d he
  have hs := (val_Av H s).1
  have hsrc := (val_Av H s).2
  have hx := (val_Av H x).1
  obtain ⟨ad, cp, e1, e2, e3, e4⟩ := elems_R hx hel
  have hexec : ∀ v w2, (Builtin.append_ #[t, t] o.type #[a.eval s, a.eval x]).run P w = .ok v w2 → (execOp a.eval o).run P w = .ok (.value v) w2 := by
    intro v w2 hr
    unfold execOp
    simp [ho, resolve, hcal, hargs, htys, invoke, builtin, hr]
  have e4' : ∃ b o', ad = some ⟨b, o', none⟩ ∧ b < w.heap.size ∧ o' + k.length ≤ lim b ∧ AV.Rm lim bs w b o' k := by
    rcases e4 with e4 | e4
    · subst e4
      have : 0 < m' * d.size := Nat.mul_pos km k3
      simp at k2; omega
    · exact e4
  obtain ⟨b, o', rfl, f1, f2, f3⟩ := e4'
  obtain ⟨news, n1, n2, n3⟩ := Rm_vals f3
  have hput : ∀ {lim' : Nat → Nat} {bs' : List Nat} {w2 : World} {bx' : List (List AV)} {tm' : Tm} {i n cap : Nat} {cur : Array Value}, Hold lim' bs' w2 bx' (Sl tm' a) m → (∃ b', bs'[i]? = some b' ∧ w2.heap[b']? = some (.cells cur e (0, 0)) ∧ cur.size = cap * d.size ∧ n ≤ cap ∧ cap ≤ maxLen ∧ ∀ g, g = b' → True) →
      ∀ b', bs'[i]? = some b' → w2.heap[b']? = some (.cells cur e (0, 0)) → cur.size = cap * d.size → n ≤ cap → cap ≤ maxLen → Hold lim' bs' w2 bx' (Sl (put tm' dd (.bsl i e d.size n)) (a.put o.dst (.slice (some ⟨b', 0, none⟩) n cap))) m := by
    intro lim' bs' w2 bx' tm' i n cap cur HH _ b' q1 q2 q3 q4 q5
    rw [hdst, Sl_put hd]
    refine HH.put ?_ rfl (fun g hh => by cases hh)
    rw [AV.R]
    exact ⟨b', cap, cur, q1, q2, q3, q4, q5, rfl⟩
  have hsplit : ∀ {cur' : Array Value} {n : Nat} {L : List Value}, cur'.toList.take n = L → cur'.toList = L ++ cur'.toList.drop n := by
    intro cur' n L h
    rw [← h, List.take_append_drop]
  split at h
  · -- nil
    rename_i hnil
    split at h
    case isFalse => cases h
    rename_i hle
    cases h
    have h1 := hs.r
    rw [hnil, AV.R] at h1
    obtain ⟨g, cap, cur', w2, r1, r2, r3, r4, r5, r6, r7, r8⟩ := run_app (P := P) (w := w) (ty := o.type) (b := b) (o' := o') (c := cp) (n := 0) (xs := []) (u := a.eval s) hu hi hz hsz hby hzc k3 k4 (by simp) (.inl ⟨h1, rfl⟩) (by rw [n1, k2]) n3 (ones_R k5 n2) km (by omega)
    rcases r8 with ⟨g1, -⟩ | ⟨g1, g2, g3⟩
    · rw [h1] at g1; cases g1
    have hr := hexec _ w2 (by rw [e1]; exact r1)
    obtain ⟨H2, hfr, hown⟩ := H.grow (w' := w2) (g := g) (n := 0) (by rw [g1]; exact fun hb => Nat.lt_irrefl _ (bs_lt H hb)) (hm _ (by omega)) (by omega) (by omega) r7 (fun k hk _ => g3 k hk) (fun p hp => by have := Own.lt H hp; omega) (.inr ⟨g1, g2⟩) (by rw [H.top g (by omega)]; omega) (fun j hj => by omega) (fun cur e p hh => by have := lt_of_heap hh; omega)
    have hlg : lim g = 0 := H.top g (by omega)
    rw [lim_same hlg] at H2 hfr
    have r6' : cur'.toList.take (m' * d.size) = news := by rw [Nat.zero_add] at r6; simpa using r6
    have H3 := H2.push (g := g) (V := news) (tl := cur'.toList.drop (m' * d.size)) (e := e) (x := k) (by rw [g1]; exact fun hb => Nat.lt_irrefl _ (bs_lt H hb)) (fun p hp => by have := Own.lt H (hown p g hp); omega) (hm _ (by omega)) hlg (by rw [← hsplit r6']; simpa using r2) (AV.Rs.ext (hfr.ext (fun _ _ h => h)) k7 n2) k7
    refine wp_val hr (hK lim (bs ++ [g]) w2 _ ⟨?_, hfr, fun i b _ hb => ?_, put_size _ _ _, put_defers _ _ _⟩)
    · show Hold lim _ w2 (σ.bx ++ [k]) (Sl (put σ.tm dd (.bsl σ.bx.length e d.size m')) _) m
      rw [Nat.zero_add] at r3 ⊢
      have hq : (bs ++ [g])[σ.bx.length]? = some g := by rw [get?_append_one, if_pos H.len.symm]
      exact hput H3 ⟨g, hq, r2, r5, r3, r4, fun _ _ => trivial⟩ g hq r2 r5 r3 r4
    · rw [get?_append_one, if_neg (fun e => by subst e; simp at hb)]; exact hb
  · -- a row that has nothing
    rename_i e' z' hrow
    split at h
    case isFalse => cases h
    rename_i hle
    obtain ⟨hle, rfl, rfl⟩ := hle
    cases h
    have h1 := hs.r
    rw [hrow, AV.R] at h1
    obtain ⟨-, -, h1⟩ := h1
    obtain ⟨ks, rfl, hSk⟩ := hsrc (by rw [hrow]; rfl)
    obtain ⟨HG, hg3, hg4⟩ := sub_give H (tmpOf (.tmp ks))
    have hu0 : (a.eval (.tmp ks) = .slice none 0 0 ∧ (0 : Nat) = 0) ∨ ∃ g cap cur, a.eval (.tmp ks) = .slice (some ⟨g, 0, none⟩) 0 cap ∧ w.heap[g]? = some (.cells cur e' (0, 0)) ∧ 0 ≤ cap ∧ cap ≤ maxLen ∧ cur.size = cap * d.size ∧ cur.toList.take (0 * d.size) = ([] : List Value) := by
      rcases h1 with h1 | ⟨g, c', cur, q1, q2, q3, q4, q5, -⟩
      · exact .inl h1
      · exact .inr ⟨g, c', cur, q1, q2, q3, q4, q5, by simp⟩
    obtain ⟨g, cap, cur', w2, r1, r2, r3, r4, r5, r6, r7, r8⟩ := run_app (P := P) (w := w) (ty := o.type) (b := b) (o' := o') (c := cp) (n := 0) (xs := []) (u := a.eval (.tmp ks)) hu hi hz hsz hby hzc k3 k4 (by simp) hu0 (by rw [n1, k2]) n3 (ones_R k5 n2) km (by omega)
    have hr := hexec _ w2 (by rw [e1]; exact r1)
    have hgm : m g ∧ g ∉ bs ∧ (∀ p, ¬ Own w bs σ.bx (Sl (give σ.tm (tmpOf (.tmp ks))) a) p g) ∧ lim g = 0 ∧ (w2.heap.size ≤ w.heap.size ∨ g = w.heap.size ∧ w2.heap.size = w.heap.size + 1) ∧ w.heap.size ≤ w2.heap.size ∧ g < w2.heap.size ∧ (∀ kk, kk < w.heap.size → kk ≠ g → w2.heap[kk]? = w.heap[kk]?) ∧ (∀ (cur : Array Value) (e : TypeId) (p : Nat × Nat), w.heap[g]? = some (Obj.cells cur e p) → ∃ cur' : Array Value, w2.heap[g]? = some (.cells cur' e p) ∧ cur'.size = cur.size) := by
      rcases r8 with ⟨g1, g2, g3, cur0, s5, s6⟩ | ⟨g1, g2, g3⟩
      · have ho1 : Own w bs σ.bx (Sl σ.tm a) (.t ks) g := ⟨by show (get σ.tm ks).isRow = true; rw [← hSk, hrow]; rfl, g1⟩
        refine ⟨(H.own _ _ ho1).1, (H.own _ _ ho1).2, fun p hp => ?_, ?_, .inl (by omega), by omega, by have := Own.lt H ho1; omega, fun kk _ hk => g3 kk hk, fun cur e p hh => by rw [s5] at hh; cases hh; exact ⟨cur', r2, s6.symm⟩⟩
        · have := H.dist p (.t ks) g (hg3 p g hp) ho1
          subst this
          exact hg4 ks g (by simp [tmpOf]) hp
        · rcases h1 with ⟨q1, -⟩ | ⟨g', c', cur, q1, -, -, -, -, q6, -⟩
          · rw [q1] at g1; cases g1
          · rw [q1] at g1
            have hgg : g' = g := by simpa [Value.ownBlock] using g1
            subst hgg
            simpa using q6
      · refine ⟨hm _ (by omega), by rw [g1]; exact fun hb => Nat.lt_irrefl _ (bs_lt H hb), fun p hp => ?_, H.top g (by omega), .inr ⟨g1, g2⟩, by omega, by omega, fun kk hk _ => g3 kk hk, fun cur e p hh => by have := lt_of_heap hh; omega⟩
        have := Own.lt HG hp
        omega
    obtain ⟨a1, a2, a3, a4, a5, a6, a7, a9, a10⟩ := hgm
    obtain ⟨H2, hfr, hown⟩ := HG.grow (w' := w2) (g := g) (n := 0) a2 a1 a7 a6 r7 a9 a3 a5 (by omega) (fun j _ hj => by omega) a10
    rw [lim_same a4] at H2 hfr
    have r6' : cur'.toList.take (m' * d.size) = news := by rw [Nat.zero_add] at r6; simpa using r6
    have H3 := H2.push (g := g) (V := news) (tl := cur'.toList.drop (m' * d.size)) (e := e') (x := k) a2 (fun p hp => a3 p (hown p g hp)) a1 a4 (by rw [← hsplit r6']; simpa using r2) (AV.Rs.ext (hfr.ext (fun _ _ h => h)) k7 n2) k7
    refine wp_val hr (hK lim (bs ++ [g]) w2 _ ⟨?_, hfr, fun i b _ hb => ?_, put_size _ _ _, put_defers _ _ _⟩)
    · show Hold lim _ w2 (σ.bx ++ [k]) (Sl (put (give σ.tm (tmpOf (.tmp ks))) dd (.bsl σ.bx.length e' d.size m')) _) m
      rw [Nat.zero_add] at r3 ⊢
      have hq : (bs ++ [g])[σ.bx.length]? = some g := by rw [get?_append_one, if_pos H.len.symm]
      exact hput H3 ⟨g, hq, r2, r5, r3, r4, fun _ _ => trivial⟩ g hq r2 r5 r3 r4
    · rw [get?_append_one, if_neg (fun e => by subst e; simp at hb)]; exact hb
  · -- a box
    rename_i i e' z' n hbsl
    split at h
    · cases h
    rename_i c0 hc0
    split at h
    case isFalse => cases h
    rename_i hcond
    obtain ⟨j1, rfl, rfl, j4, j5, j6, j7⟩ := hcond
    cases h
    have h1 := hs.r
    rw [hbsl, AV.R] at h1
    obtain ⟨b0, cp0, cur, q1, q2, q3, q4, q5, q6⟩ := h1
    obtain ⟨C, tl, tt, g1, g2, g3⟩ := H.box i b0 c0 q1 hc0
    rw [q2] at g1
    cases g1
    have hCl := AV.Rs_len g2
    have hb0 : b0 ∈ bs := List.mem_of_getElem? q1
    obtain ⟨HK, hk1, hk2, hk3⟩ := H.kill i
    have hni : i ∉ AV.idss (c0 ++ k) := fun h => by rw [mem_iff.2 h] at j6; cases j6
    have hu0 : (a.eval s = .slice none 0 0 ∧ n = 0) ∨ ∃ g cap cur, a.eval s = .slice (some ⟨g, 0, none⟩) n cap ∧ w.heap[g]? = some (.cells cur e' (0, 0)) ∧ n ≤ cap ∧ cap ≤ maxLen ∧ cur.size = cap * d.size ∧ cur.toList.take (n * d.size) = C :=
      .inr ⟨b0, cp0, _, q6, q2, q4, q5, q3, by rw [List.toList_toArray, ← j5, ← hCl]; exact List.take_left⟩
    obtain ⟨g, cap, cur', w2, r1, r2, r3, r4, r5, r6, r7, r8⟩ := run_app (P := P) (w := w) (ty := o.type) (b := b) (o' := o') (c := cp) (n := n) (xs := C) (u := a.eval s) hu hi hz hsz hby hzc k3 k4 (by rw [hCl, j5]) hu0 (by rw [n1, k2]) n3 (ones_R k5 n2) km j4
    have hr := hexec _ w2 (by rw [e1]; exact r1)
    -- what stood in the box has no rows of its own if it is flat
    have hgm : (g = b0 ∨ (g ∉ bs ∧ ∀ p, ¬ Own w bs (kill i σ).bx (Sl (kill i σ).tm a) p g)) ∧ m g ∧ lim g = 0 ∧ w.heap.size ≤ w2.heap.size ∧ (∀ kk, kk < w.heap.size → kk ≠ g → w2.heap[kk]? = w.heap[kk]?) ∧ (∀ (cur : Array Value) (e : TypeId) (p : Nat × Nat), w.heap[g]? = some (Obj.cells cur e p) → ∃ cur' : Array Value, w2.heap[g]? = some (.cells cur' e p) ∧ cur'.size = cur.size) := by
      rcases r8 with ⟨s1, s2, s3, cur0, s5, s6⟩ | ⟨s1, s2, s3⟩
      · rw [q6] at s1
        have hgg : b0 = g := by simpa [Value.ownBlock] using s1
        subst hgg
        exact ⟨.inl rfl, H.mb _ hb0, H.free _ hb0, by omega, fun kk _ hk => s3 kk hk, fun cur e p hh => by rw [s5] at hh; cases hh; exact ⟨cur', r2, s6.symm⟩⟩
      · refine ⟨.inr ⟨by rw [s1]; exact fun hb => Nat.lt_irrefl _ (bs_lt H hb), fun p hp => ?_⟩, hm _ (by omega), H.top g (by omega), by omega, fun kk hk _ => s3 kk hk, fun cur e p hh => by have := lt_of_heap hh; omega⟩
        have := Own.lt HK hp
        omega
    obtain ⟨a1, a2, a4, a6, a9, a10⟩ := hgm
    have hfr : Fr m lim w lim w2 := by
      refine ⟨r7, fun kk hk hmm => ⟨a9 kk hk (fun e => hmm (e ▸ a2)), rfl⟩, fun _ _ => Nat.le_refl _, fun kk j hk hj => ?_, fun kk cur e p hk => ?_⟩
      · by_cases he : kk = g
        · subst he; rw [a4] at hj; omega
        · exact World.cell?_of_block (a9 kk hk he)
      · by_cases he : kk = g
        · subst he; exact a10 cur e p hk
        · exact ⟨cur, (a9 kk (lt_of_heap hk) he).trans hk, rfl⟩
    have hkc : (kill i σ).bx[i]? = some c0 := by
      show (σ.bx.map fun c => c.map (killV i))[i]? = some c0
      rw [List.getElem?_map, hc0]
      have : c0.map (killV i) = c0 := by
        have hall : ∀ y ∈ c0, killV i y = y := by
          intro y hy
          rcases killV_cases i y with ⟨e, -⟩ | e
          · exact e
          · unfold killV
            cases hm : mem i y.ids with
            | true => exact absurd (AV.idss_mem.2 ⟨y, List.mem_append_left _ hy, mem_iff.1 hm⟩) hni
            | false => rfl
        exact (List.map_congr_left hall).trans (List.map_id _)
      rw [Option.map_some, this]
    have HR := HK.rebox (w' := w2) (g := g) (V := C ++ news) (tl := cur'.toList.drop ((n + m') * d.size)) (e := e') (x := c0 ++ k) q1 a1 a2 a4 a9 hfr (by rw [← hsplit r6]; simpa using r2) (Rs_append g2 n2) (flats_append j7 k7) hni hk2 (fun j c hc _ => hk3 j c hc)
    have hil : i < bs.length := (List.getElem?_eq_some_iff.1 q1).1
    refine wp_val hr (hK lim (bs.set i g) w2 _ ⟨?_, hfr, fun j b' hj hb' => ?_, put_size _ _ _, put_defers _ _ _⟩)
    · have hq : (bs.set i g)[i]? = some g := by rw [List.getElem?_set, if_pos rfl, if_pos hil]
      exact hput HR ⟨g, hq, r2, r5, r3, r4, fun _ _ => trivial⟩ g hq r2 r5 r3 r4
    · rw [List.getElem?_set, if_neg (by omega)]; exact hb'
  · cases h
end Ab
end Go.Proofs.YtlmjabnkjmfcmaaGreat
/- A run on abstract values: guards, rows of operations, two operations that may go either way. -/
namespace Go.Proofs.YtlmjabnkjmfcmaaGreat
open Go Go.RowKit Go.PlainAid
set_option linter.unusedVariables false
set_option linter.unusedSimpArgs false
namespace Ab
variable {lim lim' : Nat → Nat} {bs bs' : List Nat} {w w' : World} {P : Program} {T : Tab} {a : Act} {o : Oper} {cs : List (List AV)} {out : Out} {m : Nat → Prop} {bx bx' : List (List AV)} {S S' : Slots} {K : Act → World → Prop} {Q : Exit → Act → World → Prop} {cal : Cal} {σ σ' σ1 σ2 : ASt}
theorem R_undef : AV.R lim bs w (.tup []) undef := by rw [AV.R]; exact ⟨#[], rfl, by rw [AV.Rs]⟩
theorem tmps_some {v : Value} {t : Nat} (h : a.tmps.getD t undef = v) (hv : v ≠ undef) : a.tmps[t]? = some v := by
  rw [Array.getD_eq_getD_getElem?] at h
  cases hh : a.tmps[t]? with
  | none => rw [hh] at h; exact absurd h.symm hv
  | some u => rw [hh] at h; rw [← h]; rfl
/-- What a guard says is so. -/
theorem wanted_of (H : Hold lim bs w σ.bx (Sl σ.tm a) m) {ops : Array Oper} {g : Bool} (h : goesG ops.toList o σ = some g) : Region.wanted o (yielded ops a.tmps) = g := by
  unfold goesG at h
  split at h
  · rename_i hg
    cases h
    simp [Region.wanted, hg]
  · rename_i j want hg
    split at h
    · cases h
    · rename_i t ht
      have ht2 : (ops[j]?).bind (·.dst) = some t := by
        rw [← ht]; congr 1; simp
      have hy : yielded ops a.tmps j = match a.tmps[t]? with | some (.bool b) => some b | _ => none := by
        unfold yielded; rw [ht2]; rfl
      split at h
      · rename_i b hb
        have hv := H.slot t
        rw [show (Sl σ.tm a t).1 = get σ.tm t from rfl, hb, AV.R] at hv
        have hts := tmps_some hv (by intro e; cases e)
        have hyb : yielded ops a.tmps j = some b := by rw [hy, hts]
        cases h
        simp [Region.wanted, hg, hyb]
      · rename_i hb
        cases h
        have hv := H.slot t
        rw [show (Sl σ.tm a t).1 = get σ.tm t from rfl, hb, AV.R] at hv
        obtain ⟨vs, h1, h2⟩ := hv
        rw [AV.Rs] at h2
        have hyb : yielded ops a.tmps j = none := by
          rw [hy]
          have h1' : a.tmps.getD t undef = .tuple vs := h1
          rw [Array.getD_eq_getD_getElem?] at h1'
          cases hh : a.tmps[t]? with
          | none => rfl
          | some u => rw [hh] at h1'; simp at h1'; subst h1'; rfl
        simp [Region.wanted, hg, hyb]
      · cases h
/-- An operation with its guard. -/
theorem opG_sound (HT : TOK P T) (HC : CallsOK P cal) (H : Hold lim bs w σ.bx (Sl σ.tm a) m) (hm : ∀ b, w.heap.size ≤ b → m b) (hd : ∀ k, o.dst = some k → k < a.tmps.size) {md : Md} {ops : Array Oper} (h : aOpG cal T md ops.toList o σ = some σ') (hK : Kont m lim bs w a σ' K) :
    if Region.wanted o (yielded ops a.tmps) = true then o.wp P a w K Q else K (a.put o.dst undef) w := by
  unfold aOpG at h
  split at h
  · cases h
  · rename_i hg
    rw [wanted_of H hg, if_pos rfl]
    exact op_sound HT HC H hm hd h hK
  · rename_i hg
    cases h
    rw [wanted_of H hg, if_neg (by simp)]
    refine hK lim bs w _ ⟨?_, Fr.refl, fun _ _ h => h, put_size _ _ _, put_defers _ _ _⟩
    show Hold lim bs w σ.bx (Sl (putD σ.tm o.dst (.tup [])) (a.put o.dst undef)) m
    rw [Sl_putD hd]
    exact H.putD R_undef rfl (fun k g _ hh => by cases hh)
theorem appArgs_inv {c : Call} {x y : Operand} {t : Nat} (h : appArgs c = some (x, y, t)) : c.callee = .builtin .append ∧ c.args = #[x, y] ∧ c.argTypes = #[t, t] := by
  unfold appArgs at h
  split at h
  · rename_i b hb
    split at h
    · split at h
      · rename_i x' y' hx
        split at h
        · rename_i t1 t2 ht
          split at h
          · rename_i e
            cases h
            subst e
            exact ⟨hb, by rw [← Array.toList_inj]; exact hx, by rw [← Array.toList_inj]; exact ht⟩
          · cases h
        · cases h
      · cases h
    · cases h
  · cases h
/-- An operation, where operations go in their order. -/
theorem opX_sound (HT : TOK P T) (HC : CallsOK P cal) (H : Hold lim bs w σ.bx (Sl σ.tm a) m) (hm : ∀ b, w.heap.size ≤ b → m b) (hd : ∀ k, o.dst = some k → k < a.tmps.size) {md : Md} {ops : Array Oper} (h : aOpX cal T md ops.toList o σ = some σ') (hK : KontB md.base m lim bs w a σ' K) :
    if Region.wanted o (yielded ops a.tmps) = true then o.wp P a w K Q else K (a.put o.dst undef) w := by
  unfold aOpX at h
  split at h
  · rename_i c ho
    split at h
    · rename_i x y t hap
      split at h
      · rename_i d hdst
        split at h
        · split at h
          · rename_i hg
            obtain ⟨h1, h2, h3⟩ := appArgs_inv hap
            rw [if_pos (by simp [Region.wanted, hg])]
            exact app_box HT H hm (hd d hdst) hdst ho h1 h2 h3 h hK
          · cases h
        · exact opG_sound HT HC H hm hd h hK.all
      · exact opG_sound HT HC H hm hd h hK.all
    · exact opG_sound HT HC H hm hd h hK.all
  · exact opG_sound HT HC H hm hd h hK.all
/-- A row of operations, one behind the other. -/
theorem list_sound (HT : TOK P T) (HC : CallsOK P cal) {ops : Array Oper} {md : Md} (hdst : ∀ o ∈ ops.toList, ∀ k, o.dst = some k → k < a.tmps.size) :
    ∀ (l : List Oper), (∀ o ∈ l, o ∈ ops.toList) → ∀ {lim : Nat → Nat} {bs : List Nat} {w : World} {σ : ASt} {a1 : Act}, a1.tmps.size = a.tmps.size → Hold lim bs w σ.bx (Sl σ.tm a1) m → (∀ b, w.heap.size ≤ b → m b) → runOps cal T ops.toList md l σ = some σ' → KontB md.base m lim bs w a1 σ' (Q .normal) → wpList P ops Q l a1 w
  | [], _, lim, bs, w, σ, a1, hs, H, hm, h, hK => by
    rw [runOps] at h; cases h
    exact wpList_nil (hK lim bs w a1 ⟨H, Fr.refl, fun _ _ _ h => h, rfl, rfl⟩)
  | o :: l, hl, lim, bs, w, σ, a1, hs, H, hm, h, hK => by
    rw [runOps] at h
    split at h
    · cases h
    · rename_i σ1 h1
      refine wpList_step fun K' hK' => ?_
      refine opX_sound HT HC H hm (fun k hk => by rw [hs]; exact hdst o (hl o List.mem_cons_self) k hk) h1 (fun lim1 bs1 w1 a2 hg => hK' a2 w1 ?_)
      exact list_sound HT HC hdst l (fun o ho => hl o (List.mem_cons_of_mem _ ho)) (hg.nt.trans hs) hg.hold (fun b hb => hm b (Nat.le_trans hg.fr.bel.size hb)) h (fun lim2 bs2 w2 a3 hg2 => hK lim2 bs2 w2 a3 (hg.trans hg2))
/-! ### What an operation does, told apart from what it is done to -/
structure Eff where
  ps : List (Nat × AV)
  ids : List Nat
  cs : List (List AV)
  nw : List (List AV)
def puts (tm : Tm) : List (Nat × AV) → Tm
  | [] => tm
  | (k, v) :: r => puts (put tm k v) r
def Eff.app (E : Eff) (σ : ASt) : ASt := ⟨puts σ.tm E.ps, setMany σ.bx E.ids E.cs ++ E.nw⟩
theorem put_comm : ∀ (tm : Tm) (i j : Nat) (u v : AV), i ≠ j → put (put tm i u) j v = put (put tm j v) i u
  | [], i, j, u, v, h => by
    simp only [put, put_cons]
    rcases Nat.lt_or_ge i j with h1 | h1
    · rw [if_pos h1, if_neg (by omega), if_neg (by omega)]
    · rw [if_neg (by omega), if_neg (fun e => h e.symm), if_pos (by omega)]
  | (k, x) :: r, i, j, u, v, h => by
    have ih := put_comm r i j u v h
    simp only [put_cons]
    by_cases a1 : k < i <;> by_cases a2 : k < j
    · simp only [a1, a2, if_true, put_cons]
      rcases Nat.lt_or_ge i j with h1 | h1
      · rw [if_pos h1, if_neg (by omega), if_neg h]
      · rw [if_neg (by omega), if_neg (fun e => h e.symm), if_pos (by omega)]
    · simp only [a1, a2, if_true, if_false, put_cons]
      by_cases b2 : j = k
      · subst b2
        simp only [if_true, put_cons, if_neg (show ¬ i < j by omega), if_neg (fun e => h e.symm : ¬ j = i), if_neg (Nat.lt_irrefl j), if_pos a1]
      · simp only [b2, if_false, put_cons, if_neg (show ¬ i < j by omega), if_neg (fun e => h e.symm : ¬ j = i), if_neg a2, if_pos a1]
    · simp only [a1, a2, if_true, if_false, put_cons]
      by_cases b2 : i = k
      · subst b2
        simp only [if_true, put_cons, if_neg (show ¬ j < i by omega), if_neg h, if_neg (Nat.lt_irrefl i), if_pos a2]
      · simp only [b2, if_false, put_cons, if_neg (show ¬ j < i by omega), if_neg h, if_neg a1, if_pos a2]
    · simp only [a1, a2, if_false]
      by_cases b1 : i = k
      · by_cases b2 : j = k
        · omega
        · simp only [b1, b2, if_true, if_false, put_cons, if_neg a2, Nat.lt_irrefl]
      · by_cases b2 : j = k
        · simp only [b1, b2, if_true, if_false, put_cons, if_neg a1, Nat.lt_irrefl]
        · simp only [b1, b2, if_false, put_cons, if_neg a1, if_neg a2, ih]
theorem puts_put : ∀ (l : List (Nat × AV)) (tm : Tm) (i : Nat) (u : AV), (∀ p ∈ l, p.1 ≠ i) → puts (put tm i u) l = put (puts tm l) i u
  | [], tm, i, u, _ => rfl
  | (k, v) :: r, tm, i, u, h => by
    rw [puts, puts, put_comm tm i k u v (fun e => h (k, v) List.mem_cons_self e.symm), puts_put r _ i u (fun p hp => h p (List.mem_cons_of_mem _ hp))]
theorem puts_comm : ∀ (l l2 : List (Nat × AV)) (tm : Tm), (∀ p ∈ l, ∀ q ∈ l2, p.1 ≠ q.1) → puts (puts tm l) l2 = puts (puts tm l2) l
  | [], l2, tm, _ => rfl
  | (k, v) :: r, l2, tm, h => by
    rw [puts, puts_comm r l2 (put tm k v) (fun p hp => h p (List.mem_cons_of_mem _ hp)), puts_put l2 tm k v (fun q hq e => h (k, v) List.mem_cons_self q hq e.symm), puts]
theorem setMany_len : ∀ (ids : List Nat) (cs : List (List AV)) (bx : List (List AV)), (setMany bx ids cs).length = bx.length
  | [], cs, bx => by rw [setMany_nil]
  | i :: r, [], bx => by unfold setMany; rfl
  | i :: r, c :: cs, bx => by rw [setMany, setMany_len r cs, List.length_set]
theorem setMany_set : ∀ (ids : List Nat) (cs : List (List AV)) (bx : List (List AV)) (i : Nat) (c : List AV), i ∉ ids → setMany (bx.set i c) ids cs = (setMany bx ids cs).set i c
  | [], cs, bx, i, c, _ => by rw [setMany_nil, setMany_nil]
  | j :: r, [], bx, i, c, _ => by unfold setMany; rfl
  | j :: r, d :: cs, bx, i, c, h => by
    rw [List.mem_cons, not_or] at h
    rw [setMany, setMany, List.set_comm _ _ h.1, setMany_set r cs _ i c h.2]
theorem setMany_comm : ∀ (ids : List Nat) (cs : List (List AV)) (ids2 : List Nat) (cs2 : List (List AV)) (bx : List (List AV)), (∀ i ∈ ids, i ∉ ids2) → setMany (setMany bx ids cs) ids2 cs2 = setMany (setMany bx ids2 cs2) ids cs
  | [], cs, ids2, cs2, bx, _ => by rw [setMany_nil, setMany_nil]
  | j :: r, [], ids2, cs2, bx, _ => by
    have e : ∀ b : List (List AV), setMany b (j :: r) [] = b := fun b => by unfold setMany; rfl
    rw [e, e]
  | j :: r, d :: cs, ids2, cs2, bx, h => by
    rw [setMany, setMany_comm r cs ids2 cs2 _ (fun i hi => h i (List.mem_cons_of_mem _ hi)), setMany_set ids2 cs2 bx j d (h j List.mem_cons_self), setMany]
theorem setMany_append : ∀ (ids : List Nat) (cs : List (List AV)) (bx c : List (List AV)), (∀ i ∈ ids, i < bx.length) → setMany (bx ++ c) ids cs = setMany bx ids cs ++ c
  | [], cs, bx, c, _ => by rw [setMany_nil, setMany_nil]
  | j :: r, [], bx, c, _ => by unfold setMany; rfl
  | j :: r, d :: cs, bx, c, h => by
    rw [setMany, setMany, List.set_append_left _ _ (h j List.mem_cons_self), setMany_append r cs _ c (fun i hi => by rw [List.length_set]; exact h i (List.mem_cons_of_mem _ hi))]
theorem Eff.comm {E F : Eff} {σ : ASt} (hk : ∀ p ∈ E.ps, ∀ q ∈ F.ps, p.1 ≠ q.1) (hi : ∀ i ∈ E.ids, i ∉ F.ids) (hn : E.nw = [] ∨ F.nw = []) (hE : ∀ i ∈ E.ids, i < σ.bx.length) (hF : ∀ i ∈ F.ids, i < σ.bx.length) : F.app (E.app σ) = E.app (F.app σ) := by
  unfold Eff.app
  simp only [ASt.mk.injEq]
  refine ⟨puts_comm _ _ _ hk, ?_⟩
  rcases hn with h | h
  · rw [h, List.append_nil, List.append_nil, setMany_append _ _ _ _ (fun i h => by rw [setMany_len]; exact hE i h), setMany_comm _ _ _ _ _ hi]
  · rw [h, List.append_nil, List.append_nil, setMany_append _ _ _ _ (fun i h => by rw [setMany_len]; exact hF i h), setMany_comm _ _ _ _ _ hi]
end Ab
end Go.Proofs.YtlmjabnkjmfcmaaGreat
/- A run on abstract values: what an operation hangs on. -/
namespace Go.Proofs.YtlmjabnkjmfcmaaGreat
open Go Go.RowKit Go.PlainAid
set_option linter.unusedVariables false
set_option linter.unusedSimpArgs false
namespace AV
mutual
theorem ren_congr {f g : Nat → Nat} : ∀ {x : AV}, (∀ i ∈ ids x, f i = g i) → ren f x = ren g x
  | .ptr i o, h => by rw [ren, ren, h i (by simp [ids])]
  | .bsl i e z n, h => by rw [ren, ren, h i (by simp [ids])]
  | .bool _, _ => rfl
  | .int _ _, _ => rfl
  | .str _, _ => rfl
  | .nz _, _ => rfl
  | .nil, _ => rfl
  | .unk _, _ => rfl
  | .low _ _ _, _ => rfl
  | .bad, _ => rfl
  | .sl n l, h => by rw [ren, ren, rens_congr (by simpa [ids] using h)]
  | .row e z n l, h => by rw [ren, ren, rens_congr (by simpa [ids] using h)]
  | .el l, h => by rw [ren, ren, rens_congr (by simpa [ids] using h)]
  | .agg l, h => by rw [ren, ren, rens_congr (by simpa [ids] using h)]
  | .tup l, h => by rw [ren, ren, rens_congr (by simpa [ids] using h)]
  | .fn k l, h => by rw [ren, ren, rens_congr (by simpa [ids] using h)]
theorem rens_congr {f g : Nat → Nat} : ∀ {l : List AV}, (∀ i ∈ idss l, f i = g i) → rens f l = rens g l
  | [], _ => rfl
  | x :: l, h => by
    rw [idss] at h
    rw [rens, rens, ren_congr (fun i hi => h i (List.mem_append_left _ hi)), rens_congr (fun i hi => h i (List.mem_append_right _ hi))]
end
end AV
namespace Ab
variable {T : Tab} {o : Oper} {cal : Cal} {σ σ' σ1 σ2 : ASt}
theorem pvals_congr {ρ ρ2 : Operand → AV} : ∀ {l : List (Nat × Operand)}, (∀ x ∈ l.map (·.2), ρ x = ρ2 x) → pvals ρ l = pvals ρ2 l
  | [], _ => rfl
  | (i, x) :: l, h => by
    rw [pvals, pvals, h x (by simp), pvals_congr (l := l) (fun y hy => h y (by rw [List.map_cons]; exact List.mem_cons_of_mem _ hy))]
theorem core_congr {ρ ρ2 : Operand → AV} {ad mt : Bool} {L : Nat} {bs : List (List AV)} {ids : List Nat} {ty : Nat} {op : Op} (h : ∀ x ∈ op.operands.toList, ρ x = ρ2 x) : core cal T ad mt L ρ bs ids ty op = core cal T ad mt L ρ2 bs ids ty op := by
  cases op with
  | call c =>
    obtain ⟨callee, args, tys⟩ := c
    cases callee with
    | value f =>
      have h1 : ρ f = ρ2 f := h f (by simp [Op.operands, Call.operands])
      have h2 : args.toList.map ρ = args.toList.map ρ2 := List.map_congr_left (fun x hx => h x (by simp [Op.operands, Call.operands]; exact .inr (by simpa using hx)))
      simp only [core, h1, h2]
    | builtin b =>
      have h2 : args.toList.map ρ = args.toList.map ρ2 := List.map_congr_left (fun x hx => h x (by simp [Op.operands, Call.operands]; simpa using hx))
      simp only [core, h2]
    | invoke r n => rfl
  | build t ps => simp only [core, pvals_congr (fun x hx => h x (by simp only [Op.operands, List.toList_toArray]; exact hx))]
  | buildSlice t n ps => simp only [core, pvals_congr (fun x hx => h x (by simp only [Op.operands, List.toList_toArray]; exact hx))]
  | makeFunc fn first cap =>
    have h2 : cap.toList.map (fun x => (ρ x).dem) = cap.toList.map (fun x => (ρ2 x).dem) := List.map_congr_left (fun x hx => by rw [h x (by simp [Op.operands]; exact .inr (by simpa using hx))])
    simp only [core, h2]
  | makeSlice t n c => simp only [core, h n (by simp [Op.operands]), h c (by simp [Op.operands])]
  | slice t x lo hi mx =>
    have h1 : ρ x = ρ2 x := h x (by simp [Op.operands])
    have h2 : lo.map ρ = lo.map ρ2 := by
      cases lo with
      | none => rfl
      | some y => rw [Option.map_some, Option.map_some, h y (by simp [Op.operands])]
    have h3 : hi.map ρ = hi.map ρ2 := by
      cases hi with
      | none => rfl
      | some y => rw [Option.map_some, Option.map_some, h y (by simp [Op.operands])]
    simp only [core, h1, h2, h3]
  | move x => simp only [core, h x (by simp [Op.operands])]
  | assign x => simp only [core, h x (by simp [Op.operands])]
  | pick c x y => simp only [core, h c (by simp [Op.operands]), h x (by simp [Op.operands]), h y (by simp [Op.operands])]
  | box t x => simp only [core, h x (by simp [Op.operands])]
  | load t x => simp only [core, h x (by simp [Op.operands])]
  | store t p x => simp only [core, h p (by simp [Op.operands]), h x (by simp [Op.operands])]
  | nilCheck x => simp only [core, h x (by simp [Op.operands])]
  | binOp op t x y t' => simp only [core, h x (by simp [Op.operands]), h y (by simp [Op.operands])]
  | unOp op t x => simp only [core, h x (by simp [Op.operands])]
  | convert s t x => simp only [core, h x (by simp [Op.operands])]
  | fieldAddr t x f => simp only [core, h x (by simp [Op.operands])]
  | field t x f => simp only [core, h x (by simp [Op.operands])]
  | indexAddr t x i => simp only [core, h x (by simp [Op.operands]), h i (by simp [Op.operands])]
  | index t x i => simp only [core, h x (by simp [Op.operands]), h i (by simp [Op.operands])]
  | extract x i => simp only [core, h x (by simp [Op.operands])]
  | _ => rfl
theorem reach_sub : ∀ (n : Nat) (bx : List (List AV)) (todo seen : List Nat), ∀ i ∈ seen, i ∈ reach n bx todo seen
  | 0, _, _, seen, i, h => h
  | n + 1, bx, [], seen, i, h => h
  | n + 1, bx, j :: r, seen, i, h => by
    rw [reach]
    split
    · exact reach_sub n bx r seen i h
    · exact reach_sub n bx _ _ i (List.mem_append_left _ h)
theorem getD_of {l l2 : List (List AV)} {i : Nat} (h : l[i]? = l2[i]?) : l.getD i [] = l2.getD i [] := by
  rw [List.getD_eq_getElem?_getD, List.getD_eq_getElem?_getD, h]
theorem reach_congr : ∀ (n : Nat) (bx bx2 : List (List AV)) (todo seen : List Nat), (∀ i ∈ reach n bx todo seen, bx[i]? = bx2[i]?) → reach n bx todo seen = reach n bx2 todo seen
  | 0, _, _, _, _, _ => rfl
  | n + 1, bx, bx2, [], seen, h => rfl
  | n + 1, bx, bx2, j :: r, seen, h => by
    rw [reach] at h
    rw [reach, reach]
    split
    · rename_i hm
      rw [hm] at h
      exact reach_congr n bx bx2 r seen h
    · rename_i hm
      rw [hm] at h
      simp only [] at h
      have hj := h j (reach_sub _ _ _ _ j (List.mem_append_right _ (by simp)))
      rw [← getD_of hj]
      exact reach_congr n bx bx2 _ _ h
theorem touch_congr {ρ ρ2 : Operand → AV} {bx bx2 : List (List AV)} {op : Op} (h : ∀ x ∈ op.operands.toList, ρ x = ρ2 x) (hb : (∃ t x, op = .load t x) ∨ ∀ i ∈ touch ρ bx op, bx[i]? = bx2[i]?) : touch ρ bx op = touch ρ2 bx2 op := by
  cases op with
  | load t x => simp only [touch, h x (by simp [Op.operands])]
  | store t p x => simp only [touch, h p (by simp [Op.operands])]
  | call c =>
    obtain ⟨callee, args, tys⟩ := c
    cases callee with
    | value f =>
      have h1 : ρ f = ρ2 f := h f (by simp [Op.operands, Call.operands])
      have h2 : args.toList.map ρ = args.toList.map ρ2 := List.map_congr_left (fun x hx => h x (by simp [Op.operands, Call.operands]; exact .inr (by simpa using hx)))
      rcases hb with ⟨t, x, e⟩ | hb
      · cases e
      · simp only [touch] at hb ⊢
        rw [← h1, ← h2]
        exact reach_congr _ _ _ _ _ hb
    | _ => rfl
  | _ => rfl
theorem gives_sub {ad : Bool} {op : Op} : (gives ad op = [] ∨ ∃ t, gives ad op = [t] ∧ .tmp t ∈ op.operands.toList) := by
  have ht : ∀ x : Operand, tmpOf x = [] ∨ ∃ t, tmpOf x = [t] ∧ x = .tmp t := fun x => by
    cases x <;> first | exact .inl rfl | exact .inr ⟨_, rfl, rfl⟩
  cases op with
  | move x =>
    cases ad with
    | false => exact .inl rfl
    | true =>
      rcases ht x with e | ⟨t, e, rfl⟩
      · exact .inl e
      · exact .inr ⟨t, e, by simp [Op.operands]⟩
  | assign x =>
    rcases ht x with e | ⟨t, e, rfl⟩
    · exact .inl e
    · exact .inr ⟨t, e, by simp [Op.operands]⟩
  | store t p x =>
    rcases ht x with e | ⟨t, e, rfl⟩
    · exact .inl e
    · exact .inr ⟨t, e, by simp [Op.operands]⟩
  | call c =>
    obtain ⟨callee, args, tys⟩ := c
    cases callee with
    | builtin b =>
      cases b <;> first | exact .inl rfl | skip
      show firstOf args.toList = [] ∨ ∃ t, firstOf args.toList = [t] ∧ _
      cases hh : args.toList with
      | nil => exact .inl rfl
      | cons x r =>
        rcases ht x with e | ⟨t, e, rfl⟩
        · exact .inl e
        · have hm : Operand.tmp t ∈ args.toList := by rw [hh]; exact List.mem_cons_self
          exact .inr ⟨t, e, by simp [Op.operands, Call.operands]; simpa using hm⟩
    | _ => exact .inl rfl
  | _ => exact .inl rfl
theorem conts_same : ∀ {ids : List Nat} {bx cs : List (List AV)}, conts bx ids = some cs → setMany bx ids cs = bx
  | [], bx, cs, h => setMany_nil bx cs
  | i :: r, bx, cs, h => by
    rw [conts] at h
    split at h
    · rename_i c cs' hc hcs
      cases h
      rw [setMany, set_same hc, conts_same hcs]
    · cases h
theorem conts_congr : ∀ {ids : List Nat} {bx bx2 : List (List AV)}, (∀ i ∈ ids, bx[i]? = bx2[i]?) → conts bx ids = conts bx2 ids
  | [], bx, bx2, _ => rfl
  | i :: r, bx, bx2, h => by rw [conts, conts, h i List.mem_cons_self, conts_congr (fun j hj => h j (List.mem_cons_of_mem _ hj))]
/-- Two states are alike in what an operation hangs on: of a plain load, the cells alone. -/
structure Alike (T : Tab) (ad : List Nat) (all : List Oper) (o : Oper) (σ σ2 : ASt) : Prop where
  tm : ∀ t ∈ rkOf all o, get σ.tm t = get σ2.tm t
  bx : (∃ i c0 n c c2, ldOf T ad all o σ = some (i, c0, n) ∧ σ.bx[i]? = some c ∧ σ2.bx[i]? = some c2 ∧ c.length = c2.length ∧ (c.drop c0).take n = (c2.drop c0).take n) ∨ ∀ i ∈ touchG all o σ, σ.bx[i]? = σ2.bx[i]?
theorem val_congr {all : List Oper} (h : ∀ t ∈ rkOf all o, get σ.tm t = get σ2.tm t) : ∀ x ∈ o.op.operands.toList, val σ.tm x = val σ2.tm x := by
  intro x hx
  cases x with
  | tmp t =>
    refine h t (List.mem_append_left _ ?_)
    unfold tmpsOf
    rw [List.mem_filterMap]
    exact ⟨_, hx, rfl⟩
  | _ => rfl
theorem core_bs {ρ : Operand → AV} {ad mt : Bool} {L : Nat} {bs : List (List AV)} {ids : List Nat} {ty : Nat} {t : TypeId} {x : Operand} {out : Out} (h : core cal T ad mt L ρ bs ids ty (.load t x) = some out) (ha : ad = false) : out.bs = bs ∧ out.nw = [] := by
  subst ha
  simp only [core] at h
  obtain ⟨d, -, h⟩ := with1_some h
  unfold cLoad at h
  split at h
  · split at h
    · split at h
      · have := yesIf_inv h; subst this; exact ⟨rfl, rfl⟩
      · split at h
        · cases h; exact ⟨rfl, rfl⟩
        · cases h
    · cases h
  · split at h
    · have := yesIf_inv h; subst this; exact ⟨rfl, rfl⟩
    · split at h
      · have := yes_inv h; subst this; exact ⟨rfl, rfl⟩
      · cases h
  · cases h
end Ab
end Go.Proofs.YtlmjabnkjmfcmaaGreat
/- A run on abstract values: what an operation does, whatever else there is. -/
namespace Go.Proofs.YtlmjabnkjmfcmaaGreat
open Go Go.RowKit Go.PlainAid
set_option linter.unusedVariables false
set_option linter.unusedSimpArgs false
namespace Ab
variable {T : Tab} {o : Oper} {cal : Cal} {σ σ' σ1 σ2 : ASt}
theorem unId_lt {ids : List Nat} {L L2 j : Nat} (h : j < ids.length) : unId ids L j = unId ids L2 j := by
  unfold unId
  rw [List.getElem?_eq_getElem h]
theorem below_iff {n : Nat} {l : List Nat} : below n l = true ↔ ∀ i ∈ l, i < n := by
  unfold below
  rw [List.all_eq_true]
  constructor
  · intro h i hi
    have := h i hi
    simpa using this
  · intro h i hi
    simpa using h i hi
/-- Where no box is made, their number does not matter. -/
theorem core_nl {ρ : Operand → AV} {ad mt : Bool} {L L2 : Nat} {bs : List (List AV)} {ids : List Nat} {ty : Nat} {op : Op} {out : Out} (h : core cal T ad mt L ρ bs ids ty op = some out) (hok : out.ok = true) (hn : out.nw = []) : core cal T ad mt L2 ρ bs ids ty op = some out := by
  cases op with
  | alloc t =>
    simp only [core] at h
    obtain ⟨d, -, h⟩ := with1_some h
    cases h; cases hn
  | box t x =>
    simp only [core] at h
    cases h; cases hn
  | buildSlice t n ps =>
    simp only [core] at h ⊢
    obtain ⟨q, hq, h⟩ := with1_some h
    rw [hq]
    show cBuildSlice mt L2 q.1 q.2 n _ bs = some out
    unfold cBuildSlice at h ⊢
    split at h
    · cases h
    · rename_i l hl
      cases h
      cases mt with
      | true => cases hn
      | false => rfl
  | call c =>
    obtain ⟨callee, args, tys⟩ := c
    cases callee with
    | value f =>
      simp only [core] at h ⊢
      unfold cCall at h ⊢
      split at h
      · rename_i g cap
        split at h
        · rename_i hc
          simp only [if_pos hc]
          split at h
          · rename_i v bs' hcal
            cases h
            simp only [Bool.and_eq_true, decide_eq_true_eq] at hok
            obtain ⟨h1, h2, h3⟩ := hok
            have hd : bs'.drop ids.length = [] := by
              have hn' : (bs'.drop ids.length).map (AV.rens (unId ids L)) = [] := hn
              simpa using hn'
            have hl : bs'.length = ids.length := by
              have := congrArg List.length hd
              simp at this
              omega
            rw [below_iff] at h2
            rw [List.all_eq_true] at h3
            have e1 : v.ren (unId ids L2) = v.ren (unId ids L) := AV.ren_congr fun i hi => unId_lt (by rw [← hl]; exact h2 i hi)
            have e2 : (bs'.take ids.length).map (AV.rens (unId ids L2)) = (bs'.take ids.length).map (AV.rens (unId ids L)) := List.map_congr_left fun c hc => AV.rens_congr fun i hi => unId_lt (by rw [← hl]; exact below_iff.1 (h3 c (List.mem_of_mem_take hc)) i hi)
            simp only [hcal, e1, e2, hd, List.map_nil]
          · cases h
        · cases h
      · cases h
    | builtin b => exact h
    | invoke r n => exact h
  | _ => exact h
theorem conts_lt {ids : List Nat} {bx cs : List (List AV)} (h : conts bx ids = some cs) : ∀ i ∈ ids, i < bx.length := by
  induction ids generalizing cs with
  | nil => intro i hi; cases hi
  | cons j r ih =>
    rw [conts] at h
    split at h
    · rename_i c cs' hc hcs
      intro i hi
      rcases List.mem_cons.1 hi with e | e
      · subst e
        rcases Nat.lt_or_ge i bx.length with h' | h'
        · exact h'
        · rw [List.getElem?_eq_none h'] at hc; cases hc
      · exact ih hcs i e
    · cases h
/-- The temporaries that change hands, as puts. -/
def gvPs (tm : Tm) : List Nat → List (Nat × AV)
  | [t] => match get tm t with
    | .row _ _ n l => [(t, .sl n l)]
    | _ => []
  | _ => []
theorem give_puts {tm : Tm} {l : List Nat} (h : l = [] ∨ ∃ t, l = [t]) : give tm l = puts tm (gvPs tm l) := by
  rcases h with rfl | ⟨t, rfl⟩
  · rfl
  · rw [give]
    cases hh : get tm t <;> simp only [gvPs, hh, puts, give]
def dstPs (d : Option Nat) (v : AV) : List (Nat × AV) :=
  match d with
  | some k => [(k, v)]
  | none => []
theorem putD_puts (tm : Tm) (d : Option Nat) (v : AV) : putD tm d v = puts tm (dstPs d v) := by cases d <;> rfl
theorem puts_append : ∀ (a b : List (Nat × AV)) (tm : Tm), puts tm (a ++ b) = puts (puts tm a) b
  | [], b, tm => rfl
  | (k, v) :: r, b, tm => by rw [List.cons_append, puts, puts, puts_append r b]
theorem app_len (E : Eff) (σ : ASt) : (E.app σ).bx.length = σ.bx.length + E.nw.length := by
  unfold Eff.app
  simp only [List.length_append, setMany_len]
theorem op_eff {md : Md} {all : List Oper} (h : aOp cal T md o σ = some σ') (hgo : goesG all o σ = some true) : ∃ E : Eff, σ' = E.app σ ∧ (∀ p ∈ E.ps, p.1 ∈ wkOf md.ad o) ∧ (∀ i ∈ E.ids, i ∈ touch (val σ.tm) σ.bx o.op ∧ wrOf md.ad o = true) ∧ (∀ i ∈ touch (val σ.tm) σ.bx o.op, i < σ.bx.length) ∧ (wrOf md.ad o = false → E.nw = []) ∧
    ∀ σ2, Alike T md.ad all o σ σ2 → (E.nw ≠ [] → σ.bx.length = σ2.bx.length) → aOp cal T md o σ2 = some (E.app σ2) ∧ touch (val σ2.tm) σ2.bx o.op = touch (val σ.tm) σ.bx o.op := by
  unfold aOp aOp1 at h
  split at h
  · cases h
  rename_i cs hcs
  split at h
  · cases h
  rename_i out hcore
  have hok : out.ok = true := by
    by_cases hh : out.ok = true
    · exact hh
    · rw [if_neg hh] at h; cases h
  rw [if_pos hok] at h
  cases h
  have htg : touchG all o σ = touch (val σ.tm) σ.bx o.op := by unfold touchG; rw [hgo]
  have hgl := gives_sub (ad := isAd md.ad o.dst) (op := o.op)
  have hgl2 : gives (isAd md.ad o.dst) o.op = [] ∨ ∃ t, gives (isAd md.ad o.dst) o.op = [t] := by
    rcases hgl with e | ⟨t, e, -⟩
    · exact .inl e
    · exact .inr ⟨t, e⟩
  -- whether the boxes are turned
  have hbx : wrOf md.ad o = false → out.bs = cs ∧ out.nw = [] := by
    intro hw
    unfold wrOf at hw
    split at hw
    · rename_i t x ho
      rw [ho] at hcore
      exact core_bs hcore hw
    · cases hw
  have hset : ∀ {bx2 cs2 : List (List AV)}, conts bx2 (touch (val σ.tm) σ.bx o.op) = some cs2 → (cs2 = cs ∨ wrOf md.ad o = false) → setMany bx2 (if wrOf md.ad o = true then touch (val σ.tm) σ.bx o.op else []) out.bs = setMany bx2 (touch (val σ.tm) σ.bx o.op) (if wrOf md.ad o = true then out.bs else cs2) := by
    intro bx2 cs2 h2 h3
    cases hw : wrOf md.ad o with
    | true => rfl
    | false =>
      simp only [Bool.false_eq_true, if_false]
      rw [conts_same h2]; exact setMany_nil _ _
  refine ⟨⟨gvPs σ.tm (gives (isAd md.ad o.dst) o.op) ++ dstPs o.dst out.v, if wrOf md.ad o = true then touch (val σ.tm) σ.bx o.op else [], out.bs, out.nw⟩, ?_, ?_, ?_, conts_lt hcs, fun hw => (hbx hw).2, ?_⟩
  · unfold fin Eff.app
    simp only [puts_append, ← give_puts hgl2, ← putD_puts]
    rw [hset hcs (.inl rfl)]
    cases hw : wrOf md.ad o with
    | true => rfl
    | false => rw [(hbx hw).1]; rfl
  · intro p hp
    rcases List.mem_append.1 hp with hp | hp
    · refine List.mem_append_right _ ?_
      rcases hgl2 with e | ⟨t, e⟩
      · rw [e] at hp; cases hp
      · rw [e] at hp ⊢
        unfold gvPs at hp
        simp only [] at hp
        split at hp
        · rw [List.mem_singleton.1 hp]; simp
        · cases hp
    · refine List.mem_append_left _ ?_
      unfold dstPs at hp
      cases hd : o.dst with
      | none => rw [hd] at hp; cases hp
      | some k => rw [hd] at hp; rw [List.mem_singleton.1 hp]; simp
  · intro i hi
    cases hw : wrOf md.ad o with
    | true => rw [hw, if_pos rfl] at hi; exact ⟨hi, rfl⟩
    | false => rw [hw, if_neg (by simp)] at hi; cases hi
  · intro σ2 hA hal
    have hv := val_congr hA.tm
    have hgv : gvPs σ.tm (gives (isAd md.ad o.dst) o.op) = gvPs σ2.tm (gives (isAd md.ad o.dst) o.op) := by
      rcases hgl with e | ⟨t, e, hm⟩
      · rw [e]; rfl
      · rw [e]
        have := hv _ hm
        have h2 : get σ.tm t = get σ2.tm t := this
        unfold gvPs
        simp only [h2]
    rcases hA.bx with ⟨i, c0, n, c, c2, hld, q1, q2, q3, q4⟩ | hb
    · -- a plain load
      unfold ldOf at hld
      rw [hgo] at hld
      simp only [] at hld
      split at hld
      case h_2 => cases hld
      rename_i t x ho
      split at hld
      · cases hld
      rename_i had
      split at hld
      case h_2 => cases hld
      rename_i i' c' hval
      split at hld
      case h_2 => cases hld
      rename_i d hT
      cases hld
      have hval2 : val σ2.tm x = .ptr i c0 := by rw [← hv x (by rw [ho]; simp [Op.operands]), hval]
      have ht1 : touch (val σ.tm) σ.bx o.op = [i] := by rw [ho]; show idOf (val σ.tm x) = [i]; rw [hval]; rfl
      have ht2 : touch (val σ2.tm) σ2.bx o.op = [i] := by rw [ho]; show idOf (val σ2.tm x) = [i]; rw [hval2]; rfl
      have hcs2 : conts σ2.bx [i] = some [c2] := by simp [conts, q2]
      have hcs1 : cs = [c] := by
        rw [ht1] at hcs
        simp [conts, q1] at hcs
        exact hcs.symm
      subst hcs1
      have hw : wrOf md.ad o = false := by unfold wrOf; rw [ho]; exact had
      obtain ⟨b1, b2⟩ := hbx hw
      refine ⟨?_, by rw [ht2, ht1]⟩
      have hcore2 : core cal T (isAd md.ad o.dst) (isAd md.arr o.dst) σ2.bx.length (val σ2.tm) [c2] [i] o.type o.op = some ⟨out.v, [c2], [], out.ok⟩ := by
        rw [ho] at hcore ⊢
        simp only [core, hT, with1] at hcore ⊢
        rw [hval] at hcore
        rw [hval2]
        rw [had] at hcore ⊢
        unfold cLoad at hcore ⊢
        simp only [] at hcore ⊢
        split at hcore
        · rename_i ha
          rw [if_pos ha]
          have := yesIf_inv hcore
          rw [if_pos ha] at q4
          rw [this]
          unfold yesIf
          simp only [q4, q3]
        · rename_i ha
          rw [if_neg ha]
          rw [if_neg ha] at q4
          have hcc : c[c0]? = c2[c0]? := by
            have h1 := congrArg (·[0]?) q4
            simp only [List.getElem?_take, List.getElem?_drop] at h1
            simpa using h1
          rw [← hcc]
          split at hcore
          · rename_i v hvv
            cases hcore
            simp
          · cases hcore
      unfold aOp aOp1
      rw [ht2, hcs2]
      simp only [hcore2, hok, if_true]
      congr 1
      unfold fin Eff.app
      simp only [puts_append, hgv, ← give_puts hgl2, ← putD_puts]
      rw [hw, b2]
      simp only [Bool.false_eq_true, if_false, setMany_nil, setMany_one, set_same q2]
    · rw [htg] at hb
      have ht : touch (val σ2.tm) σ2.bx o.op = touch (val σ.tm) σ.bx o.op := (touch_congr hv (.inr hb)).symm
      refine ⟨?_, ht⟩
      have hcs2 : conts σ2.bx (touch (val σ.tm) σ.bx o.op) = some cs := by rw [← hcs]; exact (conts_congr hb).symm
      have hcore2 : core cal T (isAd md.ad o.dst) (isAd md.arr o.dst) σ2.bx.length (val σ2.tm) cs (touch (val σ.tm) σ.bx o.op) o.type o.op = some out := by
        by_cases hnw : out.nw = []
        · refine core_nl (L := σ.bx.length) ?_ hok hnw
          rw [← hcore]; exact (core_congr hv).symm
        · rw [← hal hnw, ← hcore]; exact (core_congr hv).symm
      unfold aOp aOp1
      rw [ht, hcs2]
      simp only [hcore2, hok, if_true]
      congr 1
      unfold fin Eff.app
      simp only [puts_append, hgv, ← give_puts hgl2, ← putD_puts]
      rw [hset hcs2 (.inl rfl)]
      cases hw : wrOf md.ad o with
      | true => rfl
      | false => rw [(hbx hw).1]; rfl
theorem goesG_congr {all : List Oper} (h : ∀ t ∈ rkOf all o, get σ.tm t = get σ2.tm t) : goesG all o σ2 = goesG all o σ := by
  unfold goesG
  split
  · rfl
  · rename_i j want hg
    split
    · rfl
    · rename_i t ht
      have : get σ.tm t = get σ2.tm t := by
        refine h t ?_
        unfold rkOf
        rw [hg]
        refine List.mem_append_right _ ?_
        simp only [ht]; simp
      rw [this]
theorem opG_eff {md : Md} {all : List Oper} (h : aOpG cal T md all o σ = some σ') : ∃ E : Eff, σ' = E.app σ ∧ (∀ p ∈ E.ps, p.1 ∈ wkOf md.ad o) ∧ (∀ i ∈ E.ids, i ∈ touchG all o σ ∧ wrOf md.ad o = true) ∧ (∀ i ∈ touchG all o σ, i < σ.bx.length) ∧ (wrOf md.ad o = false → E.nw = []) ∧
    ∀ σ2, Alike T md.ad all o σ σ2 → (E.nw ≠ [] → σ.bx.length = σ2.bx.length) → aOpG cal T md all o σ2 = some (E.app σ2) ∧ touchG all o σ2 = touchG all o σ := by
  unfold aOpG at h
  split at h
  · cases h
  · rename_i hg
    obtain ⟨E, e1, e2, e3, e4, e5, e6⟩ := op_eff h hg
    have htg : touchG all o σ = touch (val σ.tm) σ.bx o.op := by unfold touchG; rw [hg]
    refine ⟨E, e1, e2, by rw [htg]; exact e3, by rw [htg]; exact e4, e5, fun σ2 hA hal => ?_⟩
    have hg2 := (goesG_congr hA.tm).trans hg
    unfold aOpG touchG
    rw [hg2, hg]
    exact e6 σ2 hA hal
  · rename_i hg
    cases h
    have htg : touchG all o σ = [] := by unfold touchG; rw [hg]
    refine ⟨⟨dstPs o.dst (.tup []), [], [], []⟩, ?_, ?_, (fun i hi => by cases hi), (fun i hi => by rw [htg] at hi; cases hi), fun _ => rfl, fun σ2 hA hal => ?_⟩
    · unfold skipd Eff.app; simp only [putD_puts, setMany_nil, List.append_nil]
    · intro p hp
      refine List.mem_append_left _ ?_
      unfold dstPs at hp
      cases hd : o.dst with
      | none => rw [hd] at hp; cases hp
      | some k => rw [hd] at hp; rw [List.mem_singleton.1 hp]; simp
    · have hg2 := (goesG_congr hA.tm).trans hg
      unfold aOpG touchG
      rw [hg2, hg]
      unfold skipd Eff.app; simp only [putD_puts, setMany_nil, List.append_nil]
      exact ⟨trivial, trivial⟩
/-- Of boxes that stand alike: alike behind, too. -/
theorem setMany_agree : ∀ (ids : List Nat) (cs : List (List AV)) {bx bx2 : List (List AV)} {j : Nat}, bx[j]? = bx2[j]? → (setMany bx ids cs)[j]? = (setMany bx2 ids cs)[j]?
  | [], cs, bx, bx2, j, h => by rw [setMany_nil, setMany_nil]; exact h
  | i :: r, [], bx, bx2, j, h => by unfold setMany; exact h
  | i :: r, c :: cs, bx, bx2, j, h => by
    rw [setMany, setMany]
    refine setMany_agree r cs ?_
    have hl : j < bx.length ↔ j < bx2.length := by
      constructor
      · intro hj
        rw [List.getElem?_eq_getElem hj] at h
        exact (List.getElem?_eq_some_iff.1 h.symm).1
      · intro hj
        rw [List.getElem?_eq_getElem hj] at h
        exact (List.getElem?_eq_some_iff.1 h).1
    rw [List.getElem?_set, List.getElem?_set]
    split
    · rename_i e; subst e
      by_cases hj : i < bx.length
      · rw [if_pos hj, if_pos (hl.1 hj)]
      · rw [if_neg hj, if_neg (fun hh => hj (hl.2 hh))]
    · exact h
theorem chOf_congr {σ σ' τ τ' : ASt} : ∀ {ids : List Nat}, (∀ i ∈ ids, σ.bx[i]? = τ.bx[i]?) → (∀ i ∈ ids, σ'.bx[i]? = τ'.bx[i]?) → chOf σ σ' ids = chOf τ τ' ids
  | [], _, _ => rfl
  | i :: r, h1, h2 => by
    rw [chOf, chOf, getD_of (h1 i List.mem_cons_self), getD_of (h2 i List.mem_cons_self), chOf_congr (ids := r) (fun j hj => h1 j (List.mem_cons_of_mem _ hj)) (fun j hj => h2 j (List.mem_cons_of_mem _ hj))]
theorem news_same (n m : Nat) (h : m ≤ n) : news n m = [] := by
  unfold news
  rw [show m - n = 0 by omega]; rfl
/-- What is noted of an operation is the same where it hangs on the same. -/
theorem accO_congr {md : Md} {all : List Oper} {E : Eff} {k : Nat} (h1 : ∀ i ∈ touchG all o σ, i < σ.bx.length) (hA : Alike T md.ad all o σ σ2) (hal : E.nw ≠ [] → σ.bx.length = σ2.bx.length) (ht : touchG all o σ2 = touchG all o σ) : accO T md.ad all k o σ2 (E.app σ2) = accO T md.ad all k o σ (E.app σ) := by
  have hlen : news σ2.bx.length (E.app σ2).bx.length = news σ.bx.length (E.app σ).bx.length := by
    rw [app_len, app_len]
    by_cases hn : E.nw = []
    · rw [hn, news_same _ _ (by simp), news_same _ _ (by simp)]
    · rw [hal hn]
  have hle : Nat.ble (E.app σ2).bx.length σ2.bx.length = Nat.ble (E.app σ).bx.length σ.bx.length := by
    rw [app_len, app_len]
    have : ∀ n k : Nat, Nat.ble (n + k) n = decide (k = 0) := by
      intro n k
      cases hb : Nat.ble (n + k) n with
      | true => have := Nat.le_of_ble_eq_true hb; symm; simp; omega
      | false =>
        symm
        simp only [decide_eq_false_iff_not]
        intro e
        subst e
        rw [Nat.add_zero] at hb
        have := Nat.ble_eq_true_of_le (Nat.le_refl n)
        rw [hb] at this; cases this
    rw [this, this]
  have hgo := goesG_congr hA.tm
  have hv := val_congr hA.tm
  have hld : ldOf T md.ad all o σ2 = ldOf T md.ad all o σ := by
    unfold ldOf
    rw [hgo]
    split
    · split
      · rename_i t x ho
        rw [hv x (by rw [ho]; simp [Op.operands])]
      · rfl
    · rfl
  unfold accO
  rw [ht, hlen, hle, hld]
  congr 1
  cases hw : wrOf md.ad o with
  | false => rfl
  | true =>
    simp only [if_true]
    have hb : ∀ i ∈ touchG all o σ, σ.bx[i]? = σ2.bx[i]? := by
      rcases hA.bx with ⟨i, c0, n, c, c2, hl, -⟩ | hb
      · exfalso
        unfold ldOf at hl
        split at hl
        · split at hl
          · rename_i t x ho
            split at hl
            · cases hl
            · rename_i had
              unfold wrOf at hw
              rw [ho] at hw
              rw [had] at hw; cases hw
          · cases hl
        · cases hl
      · exact hb
    refine chOf_congr (fun i hi => (hb i hi).symm) (fun i hi => ?_)
    unfold Eff.app
    have hi1 := h1 i hi
    have hi2 : i < σ2.bx.length := by
      have := hb i hi
      rw [List.getElem?_eq_getElem hi1] at this
      exact (List.getElem?_eq_some_iff.1 this.symm).1
    simp only []
    rw [List.getElem?_append_left (by rw [setMany_len]; exact hi2), List.getElem?_append_left (by rw [setMany_len]; exact hi1)]
    exact setMany_agree _ _ (hb i hi).symm
end Ab
end Go.Proofs.YtlmjabnkjmfcmaaGreat
/- A run on abstract values: two operations that may go either way. -/
namespace Go.Proofs.YtlmjabnkjmfcmaaGreat
open Go Go.RowKit Go.PlainAid
set_option linter.unusedVariables false
set_option linter.unusedSimpArgs false
namespace Ab
variable {T : Tab} {o : Oper} {cal : Cal} {σ σ' σ1 σ2 : ASt} {P : Program}
mutual
theorem beq_eq : ∀ {x y : AV}, beq x y = true → x = y
  | .bool a, y, h => by cases y <;> simp [beq] at h; rw [h]
  | .int k a, y, h => by cases y <;> simp [beq] at h; rw [h.1, h.2]
  | .str a, y, h => by cases y <;> simp [beq] at h; rw [h]
  | .ptr i o, y, h => by cases y <;> simp [beq] at h; rw [h.1, h.2]
  | .nil, y, h => by cases y <;> simp [beq] at h; rfl
  | .sl n l, y, h => by cases y <;> simp [beq] at h; rw [h.1, beqs_eq h.2]
  | .row e z n l, y, h => by cases y <;> simp [beq] at h; rw [h.1.1.1, h.1.1.2, h.1.2, beqs_eq h.2]
  | .el l, y, h => by cases y <;> simp [beq] at h; rw [beqs_eq h]
  | .agg l, y, h => by cases y <;> simp [beq] at h; rw [beqs_eq h]
  | .tup l, y, h => by cases y <;> simp [beq] at h; rw [beqs_eq h]
  | .fn f l, y, h => by cases y <;> simp [beq] at h; rw [h.1, beqs_eq h.2]
  | .nz k, y, h => by cases y <;> simp [beq] at h; rw [h]
  | .unk k, y, h => by cases y <;> simp [beq] at h; rw [h]
  | .low k d m, y, h => by cases y <;> simp [beq] at h; rw [h.1.1, h.1.2, h.2]
  | .bsl i e z n, y, h => by cases y <;> simp [beq] at h; rw [h.1.1.1, h.1.1.2, h.1.2, h.2]
  | .bad, y, h => by cases y <;> simp [beq] at h; rfl
theorem beqs_eq : ∀ {x y : List AV}, beqs x y = true → x = y
  | [], [], _ => rfl
  | [], _ :: _, h => by simp [beqs] at h
  | _ :: _, [], h => by simp [beqs] at h
  | x :: l, y :: r, h => by
    rw [beqs, Bool.and_eq_true] at h
    rw [beq_eq h.1, beqs_eq h.2]
end
theorem beqb_eq : ∀ {x y : List (List AV)}, beqb x y = true → x = y
  | [], [], _ => rfl
  | [], _ :: _, h => by simp [beqb] at h
  | _ :: _, [], h => by simp [beqb] at h
  | x :: l, y :: r, h => by
    rw [beqb, Bool.and_eq_true] at h
    rw [beqs_eq h.1, beqb_eq h.2]
theorem beqt_eq : ∀ {x y : Tm}, beqt x y = true → x = y
  | [], [], _ => rfl
  | [], _ :: _, h => by simp [beqt] at h
  | _ :: _, [], h => by simp [beqt] at h
  | (k, x) :: l, (j, y) :: r, h => by
    rw [beqt, Bool.and_eq_true, Bool.and_eq_true] at h
    rw [Nat.eq_of_beq_eq_true h.1.1, beq_eq h.1.2, beqt_eq h.2]
theorem beqσ_eq {a b : ASt} (h : beqσ a b = true) : a = b := by
  unfold beqσ at h
  rw [Bool.and_eq_true] at h
  cases a; cases b
  rw [ASt.mk.injEq]
  exact ⟨beqt_eq h.1, beqb_eq h.2⟩
theorem meets_false {a b : List Nat} (h : meets a b = false) : ∀ x ∈ a, x ∉ b := by
  intro x hx hb
  unfold meets at h
  rw [List.any_eq_false] at h
  exact h x hx (mem_iff.2 hb)
theorem get_puts : ∀ (l : List (Nat × AV)) (tm : Tm) (t : Nat), (∀ p ∈ l, p.1 ≠ t) → get (puts tm l) t = get tm t
  | [], tm, t, _ => rfl
  | (k, v) :: r, tm, t, h => by
    rw [puts, get_puts r _ t (fun p hp => h p (List.mem_cons_of_mem _ hp)), get_put, if_neg (fun e => h (k, v) List.mem_cons_self e.symm)]
theorem setMany_other : ∀ (ids : List Nat) (cs bx : List (List AV)) (i : Nat), i ∉ ids → (setMany bx ids cs)[i]? = bx[i]?
  | [], cs, bx, i, _ => by rw [setMany_nil]
  | j :: r, [], bx, i, _ => by unfold setMany; rfl
  | j :: r, c :: cs, bx, i, h => by
    rw [List.mem_cons, not_or] at h
    rw [setMany, setMany_other r cs _ i h.2, List.getElem?_set, if_neg (fun e => h.1 e.symm)]
theorem app_bx (E : Eff) (σ : ASt) (i : Nat) (hi : i ∉ E.ids) (hl : i < σ.bx.length) : (E.app σ).bx[i]? = σ.bx[i]? := by
  unfold Eff.app
  simp only []
  rw [List.getElem?_append_left (by rw [setMany_len]; exact hl)]; exact setMany_other _ _ _ _ hi
theorem assoc_chOf {σ σ' : ASt} {i : Nat} {c c' : List AV} : ∀ {ids : List Nat}, assoc (chOf σ σ' ids) i = some (c, c') → i ∈ ids ∧ c = σ.bx.getD i [] ∧ c' = σ'.bx.getD i []
  | [], h => by rw [chOf, assoc] at h; cases h
  | j :: r, h => by
    rw [chOf, assoc] at h
    split at h
    · rename_i e
      have e := Nat.eq_of_beq_eq_true e
      subst e
      cases h
      exact ⟨List.mem_cons_self, rfl, rfl⟩
    · obtain ⟨h1, h2⟩ := assoc_chOf h
      exact ⟨List.mem_cons_of_mem _ h1, h2⟩
theorem mild_spec {a b : AcC} (h : a.mild b = true) : ∃ i c0 n c c', a.ld = some (i, c0, n) ∧ assoc b.ch i = some (c, c') ∧ c.length = c'.length ∧ (c.drop c0).take n = (c'.drop c0).take n := by
  unfold AcC.mild at h
  split at h
  · rename_i i c0 n hl
    split at h
    · rename_i c c' hc
      rw [Bool.and_eq_true] at h
      exact ⟨i, c0, n, c, c', hl, hc, Nat.eq_of_beq_eq_true h.1, beqs_eq h.2⟩
    · cases h
  · cases h
theorem ld_wr {ad : List Nat} {all : List Oper} {q : Nat × Nat × Nat} (h : ldOf T ad all o σ = some q) : wrOf ad o = false ∧ touchG all o σ = [q.1] := by
  unfold ldOf at h
  split at h
  · rename_i hgo
    split at h
    · rename_i t x ho
      split at h
      · cases h
      · rename_i had
        split at h
        · rename_i i c hv
          split at h
          · cases h
            refine ⟨by unfold wrOf; rw [ho]; exact had, ?_⟩
            unfold touchG
            rw [hgo, ho]
            show idOf (val σ.tm x) = _
            rw [hv]; rfl
          · cases h
        · cases h
    · cases h
  · cases h
theorem al_false {E : Eff} {σ : ASt} (h : (!Nat.ble (E.app σ).bx.length σ.bx.length) = false) : E.nw = [] := by
  rw [app_len] at h
  have : Nat.ble (σ.bx.length + E.nw.length) σ.bx.length = true := by simpa using h
  have := Nat.le_of_ble_eq_true this
  exact List.eq_nil_of_length_eq_zero (by omega)
theorem getD_some {l : List (List AV)} {i : Nat} (h : i < l.length) : l[i]? = some (l.getD i []) := by
  rw [List.getD_eq_getElem?_getD, List.getElem?_eq_getElem h]; rfl
theorem op_comm {md : Md} {all : List Oper} {x y : Oper} {k j : Nat} (hx : aOpG cal T md all x σ = some σ1) (hy : aOpG cal T md all y σ1 = some σ2) (hk : clashK all md.ad x y = false) (hb : (accO T md.ad all k x σ σ1).clash (accO T md.ad all j y σ1 σ2) = false) :
    ∃ σ1', aOpG cal T md all y σ = some σ1' ∧ accO T md.ad all j y σ σ1' = accO T md.ad all j y σ1 σ2 ∧ aOpG cal T md all x σ1' = some σ2 ∧ accO T md.ad all k x σ1' σ2 = accO T md.ad all k x σ σ1 := by
  obtain ⟨E, e1, e2, e3, e4, e5, e6⟩ := opG_eff hx
  obtain ⟨F, f1, f2, f3, f4, f5, f6⟩ := opG_eff hy
  unfold clashK at hk
  simp only [Bool.or_eq_false_iff] at hk
  obtain ⟨⟨k1, k2⟩, k3⟩ := hk
  unfold AcC.clash at hb
  rw [Bool.or_eq_false_iff] at hb
  obtain ⟨b1, b2⟩ := hb
  have hal : E.nw = [] ∨ F.nw = [] := by
    rw [Bool.and_eq_false_iff] at b2
    rcases b2 with h | h
    · left
      have h' : (!Nat.ble σ1.bx.length σ.bx.length) = false := h
      rw [e1] at h'
      exact al_false h'
    · right
      have h' : (!Nat.ble σ2.bx.length σ1.bx.length) = false := h
      rw [f1] at h'
      exact al_false h'
  have htm1 : ∀ t ∈ rkOf all y, get σ1.tm t = get σ.tm t := by
    intro t ht
    rw [e1]
    exact get_puts _ _ _ (fun p hp e => meets_false k1 p.1 (e2 p hp) (by rw [e]; exact ht))
  have htm2 : ∀ t ∈ rkOf all x, get σ.tm t = get (F.app σ).tm t := by
    intro t ht
    exact (get_puts _ _ _ (fun p hp e => meets_false k3 p.1 (f2 p hp) (by rw [e]; exact ht))).symm
  -- one that turns nothing
  have hEno : wrOf md.ad x = false → σ1.bx = σ.bx ∧ E.ids = [] := by
    intro hw
    have h1 : E.ids = [] := by
      cases hh : E.ids with
      | nil => rfl
      | cons i r =>
        have := (e3 i (by rw [hh]; exact List.mem_cons_self)).2
        rw [hw] at this; cases this
    rw [e1]
    unfold Eff.app
    simp only [h1, setMany_nil, e5 hw, List.append_nil]
    exact ⟨trivial, trivial⟩
  have hFno : wrOf md.ad y = false → (∀ τ : ASt, (F.app τ).bx = τ.bx) ∧ F.ids = [] := by
    intro hw
    have h1 : F.ids = [] := by
      cases hh : F.ids with
      | nil => rfl
      | cons i r =>
        have := (f3 i (by rw [hh]; exact List.mem_cons_self)).2
        rw [hw] at this; cases this
    refine ⟨fun τ => ?_, h1⟩
    unfold Eff.app
    simp only [h1, setMany_nil, f5 hw, List.append_nil]
  have key : Alike T md.ad all y σ1 σ ∧ Alike T md.ad all x σ (F.app σ) ∧ (∀ i ∈ E.ids, i ∉ F.ids) ∧ ∀ i ∈ F.ids, i < σ.bx.length := by
    cases hwx : wrOf md.ad x with
    | false =>
      obtain ⟨x1, x2⟩ := hEno hwx
      refine ⟨⟨htm1, .inr fun i _ => by rw [x1]⟩, ⟨htm2, ?_⟩, (fun i hi => by rw [x2] at hi; cases hi), fun i hi => by rw [← x1]; exact f4 i (f3 i hi).1⟩
      cases hwy : wrOf md.ad y with
      | false => exact .inr fun i _ => by rw [(hFno hwy).1]
      | true =>
        by_cases hm : meets (touchG all x σ ++ news σ.bx.length σ1.bx.length) (touchG all y σ1 ++ news σ1.bx.length σ2.bx.length) = true
        · have hmild : ((accO T md.ad all k x σ σ1).mild (accO T md.ad all j y σ1 σ2) || (accO T md.ad all j y σ1 σ2).mild (accO T md.ad all k x σ σ1)) = true := by
            cases hh : ((accO T md.ad all k x σ σ1).mild (accO T md.ad all j y σ1 σ2) || (accO T md.ad all j y σ1 σ2).mild (accO T md.ad all k x σ σ1)) with
            | true => rfl
            | false =>
              rw [hh] at b1
              unfold accO at b1
              simp only [hm, hwy, Bool.or_true, Bool.true_and, Bool.not_false] at b1
              cases b1
          rw [Bool.or_eq_true] at hmild
          rcases hmild with hmild | hmild
          · obtain ⟨i, c0, n, c, c', h1, h2, h3, h4⟩ := mild_spec hmild
            have h1' : ldOf T md.ad all x σ = some (i, c0, n) := h1
            have h2' : assoc (if wrOf md.ad y = true then chOf σ1 σ2 (touchG all y σ1) else []) i = some (c, c') := h2
            rw [hwy, if_pos rfl] at h2'
            obtain ⟨g1, g2, g3⟩ := assoc_chOf h2'
            have hi1 := f4 i g1
            rw [x1] at hi1 g2
            refine .inl ⟨i, c0, n, c, c', h1', by rw [g2]; exact getD_some hi1, ?_, h3, h4⟩
            have hbx : (F.app σ).bx = σ2.bx := by rw [f1]; unfold Eff.app; rw [x1]
            rw [hbx, g3]
            refine getD_some ?_
            rw [← hbx, app_len]; omega
          · obtain ⟨i, c0, n, c, c', h1, -⟩ := mild_spec hmild
            have h1' : ldOf T md.ad all y σ1 = some (i, c0, n) := h1
            rw [(ld_wr h1').1] at hwy; cases hwy
        · refine .inr fun i hi => (app_bx F σ i (fun hf => ?_) (e4 i hi)).symm
          exact meets_false (by simpa using hm) i (List.mem_append_left _ hi) (List.mem_append_left _ (f3 i hf).1)
    | true =>
      by_cases hm : meets (touchG all x σ ++ news σ.bx.length σ1.bx.length) (touchG all y σ1 ++ news σ1.bx.length σ2.bx.length) = true
      · have hmild : ((accO T md.ad all k x σ σ1).mild (accO T md.ad all j y σ1 σ2) || (accO T md.ad all j y σ1 σ2).mild (accO T md.ad all k x σ σ1)) = true := by
          cases hh : ((accO T md.ad all k x σ σ1).mild (accO T md.ad all j y σ1 σ2) || (accO T md.ad all j y σ1 σ2).mild (accO T md.ad all k x σ σ1)) with
          | true => rfl
          | false =>
            rw [hh] at b1
            unfold accO at b1
            simp only [hm, hwx, Bool.true_or, Bool.true_and, Bool.not_false] at b1
            cases b1
        rw [Bool.or_eq_true] at hmild
        rcases hmild with hmild | hmild
        · obtain ⟨i, c0, n, c, c', h1, -⟩ := mild_spec hmild
          have h1' : ldOf T md.ad all x σ = some (i, c0, n) := h1
          rw [(ld_wr h1').1] at hwx; cases hwx
        · obtain ⟨i, c0, n, c, c', h1, h2, h3, h4⟩ := mild_spec hmild
          have h1' : ldOf T md.ad all y σ1 = some (i, c0, n) := h1
          have h2' : assoc (if wrOf md.ad x = true then chOf σ σ1 (touchG all x σ) else []) i = some (c, c') := h2
          rw [hwx, if_pos rfl] at h2'
          obtain ⟨g1, g2, g3⟩ := assoc_chOf h2'
          have hi1 := e4 i g1
          have hwy := (ld_wr h1').1
          refine ⟨⟨htm1, .inl ⟨i, c0, n, c', c, h1', ?_, by rw [g2]; exact getD_some hi1, h3.symm, h4.symm⟩⟩, ⟨htm2, .inr fun i _ => by rw [(hFno hwy).1]⟩, (fun i _ hf => by rw [(hFno hwy).2] at hf; cases hf), fun i hf => by rw [(hFno hwy).2] at hf; cases hf⟩
          rw [g3]
          refine getD_some ?_
          rw [e1, app_len]; omega
      · have hno := meets_false (show meets _ _ = false by simpa using hm)
        have hlt : ∀ i ∈ touchG all y σ1, i < σ.bx.length ∧ i ∉ E.ids := by
          intro i hi
          have h1 := f4 i hi
          constructor
          · rcases Nat.lt_or_ge i σ.bx.length with h | h
            · exact h
            · exfalso
              refine hno i (List.mem_append_right _ ?_) (List.mem_append_left _ hi)
              unfold news
              rw [List.mem_range'_1]
              omega
          · intro he
            exact hno i (List.mem_append_left _ (e3 i he).1) (List.mem_append_left _ hi)
        refine ⟨⟨htm1, .inr fun i hi => ?_⟩, ⟨htm2, .inr fun i hi => (app_bx F σ i (fun hf => ?_) (e4 i hi)).symm⟩, fun i hi hf => (hlt i (f3 i hf).1).2 hi, fun i hf => (hlt i (f3 i hf).1).1⟩
        · rw [e1]; exact app_bx E σ i (hlt i hi).2 (hlt i hi).1
        · exact hno i (List.mem_append_left _ hi) (List.mem_append_left _ (f3 i hf).1)
  obtain ⟨hA, hA2, hEF, hF⟩ := key
  have hl1 : F.nw ≠ [] → σ1.bx.length = σ.bx.length := fun h => by
    rw [e1, app_len, hal.resolve_right h]; simp
  have hl2 : E.nw ≠ [] → σ.bx.length = (F.app σ).bx.length := fun h => by
    rw [app_len, hal.resolve_left h]; simp
  obtain ⟨g1, g2⟩ := f6 σ hA hl1
  obtain ⟨g3, g4⟩ := e6 (F.app σ) hA2 hl2
  have hcomm : E.app (F.app σ) = σ2 := by
    rw [f1, e1]
    exact (Eff.comm (fun p hp q hq e => meets_false k2 p.1 (e2 p hp) (by rw [e]; exact f2 q hq)) hEF hal (fun i hi => e4 i (e3 i hi).1) hF).symm
  refine ⟨F.app σ, g1, ?_, by rw [g3, hcomm], ?_⟩
  · have := accO_congr (E := F) (k := j) f4 hA hl1 g2
    rw [this, ← f1]
  · have := accO_congr (E := E) (k := k) e4 hA2 hl2 g4
    rw [hcomm] at this
    rw [this, ← e1]
/-- A row of numbered operations, and all that they touch. -/
def runF (cal : Cal) (T : Tab) (all : List Oper) (md : Md) : List (Nat × Oper) → ASt → Option (List AcC × ASt)
  | [], σ => some ([], σ)
  | (k, o) :: r, σ =>
    match aOpG cal T md all o σ with
    | none => none
    | some σ1 =>
      match runF cal T all md r σ1 with
      | none => none
      | some (l, σ2) => some (accO T md.ad all k o σ σ1 :: l, σ2)
theorem runF_cons {all : List Oper} {md : Md} {k : Nat} {r : List (Nat × Oper)} {A : List AcC} (h : runF cal T all md ((k, o) :: r) σ = some (A, σ')) : ∃ σ1 A1, aOpG cal T md all o σ = some σ1 ∧ runF cal T all md r σ1 = some (A1, σ') ∧ A = accO T md.ad all k o σ σ1 :: A1 := by
  rw [runF] at h
  split at h
  · cases h
  · rename_i σ1 h1
    split at h
    · cases h
    · rename_i l σ2 h2
      cases h
      exact ⟨σ1, l, h1, h2, rfl⟩
theorem runF_cons' {all : List Oper} {md : Md} {k : Nat} {r : List (Nat × Oper)} {A : List AcC} (h1 : aOpG cal T md all o σ = some σ1) (h2 : runF cal T all md r σ1 = some (A, σ')) : runF cal T all md ((k, o) :: r) σ = some (accO T md.ad all k o σ σ1 :: A, σ') := by
  rw [runF, h1]; simp only [h2]
/-- One that may go ahead of all that stand ahead of it goes first. -/
theorem front {all : List Oper} {md : Md} {j : Nat} {y : Oper} {post : List (Nat × Oper)} : ∀ (pre : List (Nat × Oper)) {σ σ' : ASt} {A : List AcC}, runF cal T all md (pre ++ (j, y) :: post) σ = some (A, σ') → (∀ p ∈ pre, clashK all md.ad p.2 y = false) →
    ∃ A1 b A2, A = A1 ++ b :: A2 ∧ A1.map AcC.at_ = pre.map (·.1) ∧ b.at_ = j ∧ ((∀ a ∈ A1, a.clash b = false) → ∃ σ1, aOpG cal T md all y σ = some σ1 ∧ b = accO T md.ad all j y σ σ1 ∧ runF cal T all md (pre ++ post) σ1 = some (A1 ++ A2, σ'))
  | [], σ, σ', A, h, _ => by
    obtain ⟨σ1, A1, h1, h2, rfl⟩ := runF_cons h
    exact ⟨[], _, A1, rfl, rfl, rfl, fun _ => ⟨σ1, h1, rfl, h2⟩⟩
  | (k, x) :: pre, σ, σ', A, h, hk => by
    rw [List.cons_append] at h
    obtain ⟨σ1, A1, h1, h2, rfl⟩ := runF_cons h
    have hkx : clashK all md.ad x y = false := hk _ List.mem_cons_self
    obtain ⟨B1, b, B2, rfl, f2, f3, f4⟩ := front pre h2 (fun p hp => hk p (List.mem_cons_of_mem _ hp))
    refine ⟨accO T md.ad all k x σ σ1 :: B1, b, B2, rfl, by rw [List.map_cons, List.map_cons, f2]; rfl, f3, fun hc => ?_⟩
    obtain ⟨σ3, g1, rfl, g3⟩ := f4 (fun a ha => hc a (List.mem_cons_of_mem _ ha))
    obtain ⟨σ1', c1, c2, c3, c4⟩ := op_comm (j := j) h1 g1 hkx (hc _ List.mem_cons_self)
    refine ⟨σ1', c1, c2.symm, ?_⟩
    rw [List.cons_append, List.cons_append, ← c4]
    exact runF_cons' c3 g3
def PairsOK (an : List Nat) (two : Option (Nat × Nat)) (A : List AcC) : Prop := List.Pairwise (fun a b => (an.getD b.at_ 0).testBit a.at_ = true ∨ a.clash b = false ∨ isTwo two a.at_ b.at_ = true) A
theorem PairsOK.drop {an : List Nat} {two : Option (Nat × Nat)} {A1 A2 : List AcC} {b : AcC} (h : PairsOK an two (A1 ++ b :: A2)) : PairsOK an two (A1 ++ A2) := h.sublist (List.Sublist.append_left (List.sublist_cons_self b A2) A1)
theorem PairsOK.mid {an : List Nat} {two : Option (Nat × Nat)} {A1 A2 : List AcC} {b : AcC} (h : PairsOK an two (A1 ++ b :: A2)) : ∀ a ∈ A1, (an.getD b.at_ 0).testBit a.at_ = true ∨ a.clash b = false ∨ isTwo two a.at_ b.at_ = true := by
  intro a ha
  unfold PairsOK at h
  rw [List.pairwise_append] at h
  exact h.2.2 a ha b List.mem_cons_self
/-- Where one of the two is gone, the others are as they must be. -/
theorem PairsOK.one {an : List Nat} {two : Option (Nat × Nat)} {A : List AcC} (h : PairsOK an two A) (hn : ∀ a ∈ A, ∀ b ∈ A, isTwo two a.at_ b.at_ = false) : PairsOK an none A := by
  unfold PairsOK at h ⊢
  refine h.imp_of_mem fun {a b} ha hb hab => ?_
  rcases hab with h1 | h1 | h1
  · exact .inl h1
  · exact .inr (.inl h1)
  · rw [hn a ha b hb] at h1; cases h1
/-! ### All that must stand ahead of an operation -/
theorem testBit_maskOf (acc : List Nat) (k : Nat) : ∀ (l : List Nat), (maskOf acc l).testBit k = true ↔ ∃ i ∈ l, k = i ∨ (acc.getD i 0).testBit k = true
  | [] => by simp [maskOf]
  | i :: r => by
    rw [maskOf, Nat.testBit_or, Nat.testBit_or, Bool.or_eq_true, Bool.or_eq_true, testBit_maskOf acc k r, Nat.testBit_two_pow]
    constructor
    · rintro ((h | h) | ⟨j, h1, h2⟩)
      · exact ⟨i, List.mem_cons_self, .inl (by simp at h; omega)⟩
      · exact ⟨i, List.mem_cons_self, .inr h⟩
      · exact ⟨j, List.mem_cons_of_mem _ h1, h2⟩
    · rintro ⟨j, h1, h2⟩
      rcases List.mem_cons.1 h1 with rfl | h1
      · rcases h2 with h2 | h2
        · exact .inl (.inl (by simp; omega))
        · exact .inl (.inr h2)
      · exact .inr ⟨j, h1, h2⟩
theorem ancs_spec : ∀ (r : List Oper) (acc : List Nat), (∀ i, i < acc.length → (ancs acc r)[i]? = acc[i]?) ∧ ∀ (j : Nat) (o : Oper), r[j]? = some o → ∃ acc2, acc2.length = acc.length + j ∧ (∀ i, i < acc2.length → (ancs acc r)[i]? = acc2[i]?) ∧ (ancs acc r)[acc.length + j]? = some (maskOf acc2 (predsOf o))
  | [], acc => ⟨fun i _ => rfl, fun j o h => by simp at h⟩
  | o :: r, acc => by
    rw [ancs]
    obtain ⟨h1, h2⟩ := ancs_spec r (acc ++ [maskOf acc (predsOf o)])
    have hlen : (acc ++ [maskOf acc (predsOf o)]).length = acc.length + 1 := by simp
    refine ⟨fun i hi => ?_, fun j o' hj => ?_⟩
    · rw [h1 i (by omega), List.getElem?_append_left hi]
    · cases j with
      | zero =>
        simp at hj; subst hj
        refine ⟨acc, rfl, fun i hi => ?_, ?_⟩
        · rw [h1 i (by omega), List.getElem?_append_left hi]
        · rw [Nat.add_zero, h1 _ (by omega)]; simp
      | succ j =>
        obtain ⟨acc2, g1, g2, g3⟩ := h2 j o' (by simpa using hj)
        refine ⟨acc2, by omega, g2, ?_⟩
        rw [← g3]; congr 1; omega
/-- If all that an operation names stand ahead, so do all that they hang on. -/
theorem anc_in {all : List Oper} {D : Nat → Prop} (hp : ∀ (j : Nat) (o : Oper), all[j]? = some o → ∀ i ∈ predsOf o, i < j) (hD : ∀ (j : Nat) (o : Oper), all[j]? = some o → D j → ∀ i ∈ predsOf o, D i) :
    ∀ (n j : Nat) (o : Oper), j < n → all[j]? = some o → (∀ i ∈ predsOf o, D i) → ∀ k, ((ancs [] all).getD j 0).testBit k = true → D k
  | 0, j, o, hn, _, _, k, _ => by omega
  | n + 1, j, o, hn, hj, hi, k, hk => by
    obtain ⟨-, h2⟩ := ancs_spec all []
    obtain ⟨acc2, g1, g2, g3⟩ := h2 j o hj
    simp only [List.length_nil, Nat.zero_add] at g1 g3
    rw [List.getD_eq_getElem?_getD, g3, Option.getD_some, testBit_maskOf] at hk
    obtain ⟨i, hi1, hi2⟩ := hk
    rcases hi2 with rfl | hi2
    · exact hi k hi1
    · have hij : i < j := hp j o hj i hi1
      have hlt : i < all.length := Nat.lt_trans hij (List.getElem?_eq_some_iff.1 hj).1
      rw [List.getD_eq_getElem?_getD, ← g2 i (by omega), ← List.getD_eq_getElem?_getD] at hi2
      exact anc_in hp hD n i _ (by omega) (List.getElem?_eq_getElem hlt) (hD i _ (List.getElem?_eq_getElem hlt) (hi i hi1)) k hi2
theorem keysOk_spec {all : List Oper} (h : keysOk all = true) : (∀ (j : Nat) (o : Oper), all[j]? = some o → ∀ i ∈ predsOf o, i < j) ∧ ∀ (i j : Nat) (x y : Oper), i < j → all[i]? = some x → all[j]? = some y → ((ancs [] all).getD j 0).testBit i = true ∨ clashK all (adOf all) x y = false := by
  unfold keysOk at h
  rw [Bool.and_eq_true, List.all_eq_true, List.all_eq_true] at h
  obtain ⟨h1, h2⟩ := h
  refine ⟨fun j o hj i hi => ?_, fun i j x y hij hx hy => ?_⟩
  · have := h1 j (List.mem_range.2 (List.getElem?_eq_some_iff.1 hj).1)
    rw [hj] at this
    simp only [List.all_eq_true, decide_eq_true_eq] at this
    exact this i hi
  · have := h2 j (List.mem_range.2 (List.getElem?_eq_some_iff.1 hy).1)
    rw [List.all_eq_true] at this
    have := this i (List.mem_range.2 hij)
    rw [hx, hy, Bool.or_eq_true] at this
    simpa using this
end Ab
end Go.Proofs.YtlmjabnkjmfcmaaGreat
/- A run on abstract values: a region whose operations may go in more than one order. -/
namespace Go.Proofs.YtlmjabnkjmfcmaaGreat
open Go Go.RowKit Go.PlainAid
set_option linter.unusedVariables false
set_option linter.unusedSimpArgs false
namespace Ab
variable {lim lim' : Nat → Nat} {bs bs' : List Nat} {w w' : World} {P : Program} {T : Tab} {a : Act} {o : Oper} {m : Nat → Prop} {bx bx' : List (List AV)} {S S' : Slots} {K : Act → World → Prop} {Q : Exit → Act → World → Prop} {cal : Cal} {σ σ' σ1 σ2 : ASt}
theorem Goes.trans {lim1 : Nat → Nat} {bs1 : List Nat} {w1 : World} {a1 a' : Act} (h : Goes m lim bs w a σ1 lim1 bs1 w1 a1) (k : Goes m lim1 bs1 w1 a1 σ' lim' bs' w' a') : Goes m lim bs w a σ' lim' bs' w' a' :=
  ⟨k.hold, h.fr.trans k.fr, fun i b hb => k.pre i b (h.pre i b hb), k.nt.trans h.nt, k.df.trans h.df⟩
theorem runF_at {all : List Oper} {md : Md} : ∀ {l : List (Nat × Oper)} {σ σ' : ASt} {A : List AcC}, runF cal T all md l σ = some (A, σ') → A.map AcC.at_ = l.map (·.1)
  | [], σ, σ', A, h => by rw [runF] at h; cases h; rfl
  | (k, o) :: l, σ, σ', A, h => by
    obtain ⟨σ1, A1, -, h2, rfl⟩ := runF_cons h
    rw [List.map_cons, List.map_cons, runF_at h2]; rfl
theorem getD_false {l : Array Bool} {i : Nat} (h : l.getD i true = false) : l.getD i false = false := by
  rw [Array.getD_eq_getD_getElem?] at h ⊢
  cases hh : l[i]? with
  | none => rfl
  | some b => rw [hh] at h; exact h
theorem meets_comm {a b : List Nat} (h : meets a b = false) : meets b a = false := by
  cases hh : meets b a with
  | false => rfl
  | true =>
    unfold meets at hh
    rw [List.any_eq_true] at hh
    obtain ⟨x, h1, h2⟩ := hh
    exact absurd h1 (meets_false h x (mem_iff.1 h2))
theorem clashK_comm {all : List Oper} {ad : List Nat} {x y : Oper} (h : clashK all ad x y = false) : clashK all ad y x = false := by
  unfold clashK at h ⊢
  simp only [Bool.or_eq_false_iff] at h ⊢
  exact ⟨⟨h.2, meets_comm h.1.2⟩, h.1.1⟩
theorem dropN_mem {q : Nat} {p : Nat × Oper} : ∀ {l : List (Nat × Oper)}, p ∈ dropN q l ↔ p ∈ l ∧ p.1 ≠ q
  | [] => by simp [dropN]
  | (k, o) :: r => by
    rw [dropN]
    split
    · rename_i e
      have e := Nat.eq_of_beq_eq_true e
      subst e
      rw [dropN_mem (l := r)]
      constructor
      · rintro ⟨h1, h2⟩; exact ⟨List.mem_cons_of_mem _ h1, h2⟩
      · rintro ⟨h1, h2⟩
        rcases List.mem_cons.1 h1 with e | h1
        · subst e; exact absurd rfl h2
        · exact ⟨h1, h2⟩
    · rename_i e
      have hkq : k ≠ q := fun h => by subst h; rw [Nat.beq_refl] at e; cases e
      rw [List.mem_cons, List.mem_cons, dropN_mem (l := r)]
      constructor
      · rintro (h | ⟨h1, h2⟩)
        · subst h; exact ⟨.inl rfl, hkq⟩
        · exact ⟨.inr h1, h2⟩
      · rintro ⟨h1 | h1, h2⟩
        · exact .inl h1
        · exact .inr ⟨h1, h2⟩
theorem dropN_append {q : Nat} : ∀ (l r : List (Nat × Oper)), dropN q (l ++ r) = dropN q l ++ dropN q r
  | [], r => rfl
  | (k, o) :: l, r => by
    rw [List.cons_append, dropN, dropN]
    split
    · exact dropN_append l r
    · rw [dropN_append l r]; rfl
theorem dropN_cons {q i : Nat} {o : Oper} {l : List (Nat × Oper)} (h : i ≠ q) : dropN q ((i, o) :: l) = (i, o) :: dropN q l := by
  rw [dropN]
  split
  · rename_i e; exact absurd (Nat.eq_of_beq_eq_true e) h
  · rfl
theorem dropN_none {q : Nat} {l : List (Nat × Oper)} (h : ∀ p ∈ l, p.1 ≠ q) : dropN q l = l := by
  induction l with
  | nil => rfl
  | cons p r ih =>
    obtain ⟨k, o⟩ := p
    rw [dropN_cons (h _ List.mem_cons_self), ih (fun p hp => h p (List.mem_cons_of_mem _ hp))]
theorem dropN_sub {q : Nat} : ∀ (l : List (Nat × Oper)), (dropN q l).Sublist l
  | [] => List.Sublist.slnil
  | (k, o) :: l => by
    rw [dropN]
    split
    · exact (dropN_sub l).cons _
    · exact (dropN_sub l).cons_cons _
/-- How the rest of a region is known: by one run; or by two, where two operations stand there still that may go either way. -/
def Mode (cal : Cal) (T : Tab) (md : Md) (all : List Oper) (Fin : ASt → Prop) (l : List (Nat × Oper)) (σ : ASt) : Prop :=
  (∃ A σ', runF cal T all md l σ = some (A, σ') ∧ PairsOK (ancs [] all) none A ∧ Fin σ') ∨
  ∃ p q oq A B σa σb, p < q ∧ (q, oq) ∈ l ∧ all[q]? = some oq ∧ predsOf oq = [] ∧ runF cal T all md l σ = some (A, σa) ∧ runF cal T all md ((q, oq) :: dropN q l) σ = some (B, σb) ∧ PairsOK (ancs [] all) (some (p, q)) A ∧ PairsOK (ancs [] all) (some (p, q)) B ∧ Fin σa ∧ Fin σb
theorem isTwo_spec {p q a b : Nat} (h : isTwo (some (p, q)) a b = true) : (a = p ∧ b = q) ∨ (a = q ∧ b = p) := by
  unfold isTwo at h
  simp only [Bool.or_eq_true, Bool.and_eq_true, Nat.beq_eq] at h
  exact h
theorem isTwo_no {p q a b : Nat} (h1 : ¬ (a = p ∧ b = q)) (h2 : ¬ (a = q ∧ b = p)) : isTwo (some (p, q)) a b = false := by
  cases hh : isTwo (some (p, q)) a b with
  | false => rfl
  | true => rcases isTwo_spec hh with h | h <;> contradiction
/-- One that is ready goes first. -/
theorem Mode.step {md : Md} {all : List Oper} {Fin : ASt → Prop} {pre post : List (Nat × Oper)} {i : Nat} (h : Mode cal T md all Fin (pre ++ (i, o) :: post) σ) (hs : (pre ++ (i, o) :: post).Pairwise (fun p q => p.1 < q.1)) (hk : ∀ p ∈ pre ++ post, ((ancs [] all).getD i 0).testBit p.1 = false) (hkk : ∀ p ∈ pre ++ post, ((ancs [] all).getD p.1 0).testBit i = false → clashK all md.ad p.2 o = false) (ho : all[i]? = some o) (hpq : ∀ q oq, all[q]? = some oq → predsOf oq = [] → (ancs [] all).getD q 0 = 0) (hpre : ∀ p ∈ pre, clashK all md.ad p.2 o = false) :
    ∃ σ1, aOpG cal T md all o σ = some σ1 ∧ Mode cal T md all Fin (pre ++ post) σ1 := by
  have hs0 := hs
  rw [List.pairwise_append] at hs
  obtain ⟨s1, s2, s3⟩ := hs
  have hlt : ∀ p ∈ pre, p.1 < i := fun p hp => s3 p hp (i, o) List.mem_cons_self
  have hgt : ∀ p ∈ post, i < p.1 := fun p hp => (List.pairwise_cons.1 s2).1 p hp
  have hne : ∀ p ∈ pre ++ post, p.1 ≠ i := by
    intro p hp
    rcases List.mem_append.1 hp with hp | hp
    · have := hlt p hp; omega
    · have := hgt p hp; omega
  rcases h with ⟨A, σ', h1, h2, h3⟩ | ⟨p, q, oq, A, B, σa, σb, h0, hq, hqa, hqp, h1, h2, h3, h4, h5, h6⟩
  · obtain ⟨A1, b, A2, rfl, f2, f3, f4⟩ := front pre h1 hpre
    obtain ⟨σ1, g1, -, g3⟩ := f4 (fun x hx => by
      have hx1 : x.at_ ∈ pre.map (·.1) := by rw [← f2]; exact List.mem_map_of_mem hx
      obtain ⟨y, hy, e⟩ := List.mem_map.1 hx1
      rcases h2.mid x hx with hh | hh | hh
      · rw [f3, ← e, hk y (List.mem_append_left _ hy)] at hh; cases hh
      · exact hh
      · cases hh)
    exact ⟨σ1, g1, .inl ⟨_, σ', g3, h2.drop, h3⟩⟩
  · by_cases hiq : i = q
    · -- the second one goes first
      subst hiq
      have hoq : o = oq := by rw [hqa] at ho; exact (Option.some.inj ho).symm
      subst hoq
      obtain ⟨σ1, B1, g1, g2, rfl⟩ := runF_cons h2
      have hd : dropN i (pre ++ (i, o) :: post) = pre ++ post := by
        rw [dropN_append, dropN, Nat.beq_refl]
        simp only []
        rw [dropN_none (fun p hp => by have := hlt p hp; omega), dropN_none (fun p hp => by have := hgt p hp; omega)]
      rw [hd] at g2
      have hp2 : PairsOK (ancs [] all) (some (p, i)) B1 := (List.pairwise_cons.1 h4).2
      refine ⟨σ1, g1, .inl ⟨B1, σb, g2, hp2.one (fun a ha b hb => ?_), h6⟩⟩
      have hat := runF_at g2
      have hin : ∀ a ∈ B1, a.at_ ≠ i := by
        intro a ha e
        have : a.at_ ∈ (pre ++ post).map (·.1) := by rw [← hat]; exact List.mem_map_of_mem ha
        obtain ⟨y, hy, e2⟩ := List.mem_map.1 this
        exact hne y hy (by rw [e2, e])
      exact isTwo_no (fun h => hin b hb h.2) (fun h => hin a ha h.1)
    · have hqm : (q, oq) ∈ pre ++ post := by
        rcases List.mem_append.1 hq with h | h
        · exact List.mem_append_left _ h
        · rcases List.mem_cons.1 h with e | h
          · cases e; exact absurd rfl hiq
          · exact List.mem_append_right _ h
      obtain ⟨A1, b, A2, rfl, f2, f3, f4⟩ := front pre h1 hpre
      obtain ⟨σ1, g1, -, g3⟩ := f4 (fun x hx => by
        have hx1 : x.at_ ∈ pre.map (·.1) := by rw [← f2]; exact List.mem_map_of_mem hx
        obtain ⟨y, hy, e⟩ := List.mem_map.1 hx1
        rcases h3.mid x hx with hh | hh | hh
        · rw [f3, ← e, hk y (List.mem_append_left _ hy)] at hh; cases hh
        · exact hh
        · exfalso
          have hyi := hlt y hy
          rcases isTwo_spec hh with ⟨e1, e2⟩ | ⟨e1, e2⟩
          · exact hiq (by rw [← f3, e2])
          · have : y.1 = q := by rw [e, e1]
            have : i = p := by rw [← f3, e2]
            omega)
      have h3d := h3.drop
      by_cases hip : i = p
      · -- the first one goes first
        subst hip
        refine ⟨σ1, g1, .inl ⟨_, σa, g3, h3d.one (fun a ha b hb => ?_), h5⟩⟩
        have hat := runF_at g3
        have hin : ∀ a ∈ A1 ++ A2, a.at_ ≠ i := by
          intro a ha e
          have : a.at_ ∈ (pre ++ post).map (·.1) := by rw [← hat]; exact List.mem_map_of_mem ha
          obtain ⟨y, hy, e2⟩ := List.mem_map.1 this
          exact hne y hy (by rw [e2, e])
        exact isTwo_no (fun h => hin a ha h.1) (fun h => hin b hb h.2)
      · have hd : dropN q (pre ++ (i, o) :: post) = dropN q pre ++ (i, o) :: dropN q post := by rw [dropN_append, dropN_cons hiq]
        rw [hd, ← List.cons_append] at h2
        have hkq : clashK all md.ad oq o = false := hkk (q, oq) hqm (by rw [hpq q oq hqa hqp]; simp)
        obtain ⟨B1, b2, B2, rfl, f2', f3', f4'⟩ := front ((q, oq) :: dropN q pre) h2 (fun x hx => by
          rcases List.mem_cons.1 hx with e | hx
          · rw [e]; exact hkq
          · exact hpre x (dropN_mem.1 hx).1)
        obtain ⟨σ1', g1', -, g3'⟩ := f4' (fun x hx => by
          have hx1 : x.at_ ∈ ((q, oq) :: dropN q pre).map (·.1) := by rw [← f2']; exact List.mem_map_of_mem hx
          obtain ⟨y, hy, e⟩ := List.mem_map.1 hx1
          have hym : y ∈ pre ++ post := by
            rcases List.mem_cons.1 hy with e | hy
            · rw [e]; exact hqm
            · exact List.mem_append_left _ (dropN_mem.1 hy).1
          rcases h4.mid x hx with hh | hh | hh
          · rw [f3', ← e, hk y hym] at hh; cases hh
          · exact hh
          · exfalso
            rcases isTwo_spec hh with ⟨e1, e2⟩ | ⟨e1, e2⟩
            · exact hiq (by rw [← f3', e2])
            · exact hip (by rw [← f3', e2]))
        rw [g1] at g1'
        cases g1'
        refine ⟨σ1, g1, .inr ⟨p, q, oq, _, _, σa, σb, h0, hqm, hqa, hqp, g3, ?_, h3d, h4.drop, h5, h6⟩⟩
        rw [dropN_append, ← List.cons_append]
        exact g3'
theorem ancs_zero {all : List Oper} {q : Nat} {oq : Oper} (h : all[q]? = some oq) (hp : predsOf oq = []) : (ancs [] all).getD q 0 = 0 := by
  obtain ⟨-, h2⟩ := ancs_spec all []
  obtain ⟨acc2, -, -, g3⟩ := h2 q oq h
  simp only [List.length_nil, Nat.zero_add] at g3
  rw [List.getD_eq_getElem?_getD, g3, hp]
  rfl
theorem any_sound (HT : TOK P T) (HC : CallsOK P cal) {md : Md} {ops : Array Oper} (hmd : md.ad = adOf ops.toList) (hko : keysOk ops.toList = true) (hdst : ∀ o ∈ ops.toList, ∀ k, o.dst = some k → k < a.tmps.size) {Fin : ASt → Prop} :
    ∀ (n : Nat) (l : List (Nat × Oper)), l.length = n → ∀ {lim : Nat → Nat} {bs : List Nat} {w : World} {σ : ASt} {a1 : Act} {listed : Array Bool}, listed.size = ops.size → l.Pairwise (fun p q => p.1 < q.1) → (∀ p ∈ l, ops[p.1]? = some p.2) → (∀ k, listed.getD k true = false ↔ ∃ o, (k, o) ∈ l) →
      (∀ (j : Nat) (o : Oper), ops[j]? = some o → listed.getD j false = true → ∀ i ∈ predsOf o, listed.getD i false = true) →
      a1.tmps.size = a.tmps.size → Hold lim bs w σ.bx (Sl σ.tm a1) m → (∀ b, w.heap.size ≤ b → m b) → Mode cal T md ops.toList Fin l σ → (∀ σ', Fin σ' → Kont m lim bs w a1 σ' (Q .normal)) → wpAny P .any ops Q n listed a1 w := by
  obtain ⟨hk1, hk2⟩ := keysOk_spec hko
  have hall : ∀ j, ops.toList[j]? = ops[j]? := fun j => Array.getElem?_toList
  have hpr : ∀ {o : Oper} {i : Nat}, i ∈ predsOf o ↔ ∃ e ∈ o.after, Region.binds .any e = true ∧ e.on = i := by
    intro o i
    unfold predsOf
    rw [List.mem_filterMap]
    constructor
    · rintro ⟨e, h1, h2⟩
      split at h2
      · rename_i hb; cases h2; exact ⟨e, by simpa using h1, hb, rfl⟩
      · cases h2
    · rintro ⟨e, h1, h2, rfl⟩
      exact ⟨e, by simpa using h1, by rw [if_pos h2]⟩
  intro n
  induction n with
  | zero =>
    intro l hl lim bs w σ a1 listed hsz hs hin hun hdc hts H hm h hK
    obtain rfl := List.eq_nil_of_length_eq_zero hl
    have hfin : Fin σ := by
      rcases h with ⟨A, σ', h1, h2, h3⟩ | ⟨p, q, oq, A, B, σa, σb, h0, hq, -⟩
      · rw [runF] at h1; cases h1; exact h3
      · cases hq
    refine ⟨?_, hK σ hfin lim bs w a1 ⟨H, Fr.refl, fun _ _ h => h, rfl, rfl⟩⟩
    rw [List.eq_nil_iff_forall_not_mem]
    intro i hi
    obtain ⟨h0, -⟩ := mem_ready.1 hi
    obtain ⟨o, ho⟩ := (hun i).1 h0
    cases ho
  | succ n ih =>
    intro l hl lim bs w σ a1 listed hsz hs hin hun hdc hts H hm h hK
    refine ⟨fun hr => ?_, fun i hi => ?_⟩
    · -- the least of those left may go
      exfalso
      cases l with
      | nil => simp at hl
      | cons p l =>
        obtain ⟨k, o⟩ := p
        have hko2 := hin _ List.mem_cons_self
        have : k ∈ Region.ready .any ops listed := by
          refine mem_ready.2 ⟨(hun k).2 ⟨o, List.mem_cons_self⟩, o, hko2, fun e he hb => ?_⟩
          have hlt : e.on < k := hk1 k o (by rw [hall]; exact hko2) e.on (hpr.2 ⟨e, he, hb, rfl⟩)
          have hklt : k < ops.size := (Array.getElem?_eq_some_iff.1 hko2).1
          have hnot : ¬ listed.getD e.on true = false := by
            intro hf
            obtain ⟨o2, ho2⟩ := (hun e.on).1 hf
            rcases List.mem_cons.1 ho2 with h1 | h1
            · cases h1; omega
            · have := (List.pairwise_cons.1 hs).1 _ h1
              simp only at this; omega
          have hlt2 : e.on < listed.size := by omega
          simpa [hlt2] using hnot
        rw [hr] at this; cases this
    · obtain ⟨h0, o, ho, hall2⟩ := mem_ready.1 hi
      obtain ⟨o', ho'⟩ := (hun i).1 h0
      have := hin _ ho'
      simp only [] at this
      rw [ho] at this; cases this
      obtain ⟨pre, post, rfl⟩ := List.append_of_mem ho'
      have hs0 := hs
      rw [List.pairwise_append] at hs
      obtain ⟨s1, s2, s3⟩ := hs
      have hpreds : ∀ j ∈ predsOf o, listed.getD j false = true := by
        intro j hj
        obtain ⟨e, e1, e2, rfl⟩ := hpr.1 hj
        exact hall2 e e1 e2
      have hnoanc : ∀ p ∈ pre ++ post, ((ancs [] ops.toList).getD i 0).testBit p.1 = false := by
        intro p hp
        cases hb : ((ancs [] ops.toList).getD i 0).testBit p.1 with
        | false => rfl
        | true =>
          exfalso
          have := anc_in (D := fun k => listed.getD k false = true) hk1 (fun j o2 hj hD => hdc j o2 (by rw [← hall]; exact hj) hD) (i + 1) i o (by omega) (by rw [hall]; exact ho) hpreds p.1 hb
          have hpl : p ∈ pre ++ (i, o) :: post := by
            rcases List.mem_append.1 hp with hp | hp
            · exact List.mem_append_left _ hp
            · exact List.mem_append_right _ (List.mem_cons_of_mem _ hp)
          have h2 := getD_false ((hun p.1).2 ⟨p.2, hpl⟩)
          rw [h2] at this; cases this
      have hclash : ∀ p ∈ pre, clashK ops.toList md.ad p.2 o = false := by
        intro p hp
        rw [hmd]
        have hlt : p.1 < i := s3 p hp (i, o) List.mem_cons_self
        rcases hk2 p.1 i p.2 o hlt (by rw [hall]; exact hin p (List.mem_append_left _ hp)) (by rw [hall]; exact ho) with hh | hh
        · rw [hnoanc p (List.mem_append_left _ hp)] at hh; cases hh
        · exact hh
      have hclash2 : ∀ p ∈ pre ++ post, ((ancs [] ops.toList).getD p.1 0).testBit i = false → clashK ops.toList md.ad p.2 o = false := by
        intro p hp hb
        rcases List.mem_append.1 hp with hp | hp
        · exact hclash p hp
        · rw [hmd]
          have hlt : i < p.1 := (List.pairwise_cons.1 s2).1 p hp
          rcases hk2 i p.1 o p.2 hlt (by rw [hall]; exact ho) (by rw [hall]; exact hin p (List.mem_append_right _ (List.mem_cons_of_mem _ hp))) with hh | hh
          · rw [hb] at hh; cases hh
          · exact clashK_comm hh
      obtain ⟨σ1, g1, g3⟩ := h.step hs0 hnoanc hclash2 (by rw [hall]; exact ho) (fun q oq h1 h2 => ancs_zero h1 h2) hclash
      refine wpOp_step ho fun K' hK' => ?_
      refine opG_sound HT HC H hm (fun k hk => by rw [hts]; exact hdst o (List.mem_of_getElem? (by rw [hall]; exact ho)) k hk) g1 (fun lim1 bs1 w1 a2 hg => hK' a2 w1 ?_)
      have hlen : (pre ++ post).length = n := by
        rw [List.length_append, List.length_cons] at hl
        rw [List.length_append]; omega
      refine ih (pre ++ post) hlen (by simpa using hsz) ?_ (fun p hp => hin p ?_) (fun k => ?_) (fun j o2 hj hD => ?_) (hg.nt.trans hts) hg.hold (fun b hb => hm b (Nat.le_trans hg.fr.bel.size hb)) g3 (fun σ' hF lim2 bs2 w2 a3 hg2 => hK σ' hF lim2 bs2 w2 a3 (hg.trans hg2))
      · rw [List.pairwise_append]
        exact ⟨s1, (List.pairwise_cons.1 s2).2, fun p hp q hq => s3 p hp q (List.mem_cons_of_mem _ hq)⟩
      · rcases List.mem_append.1 hp with hp | hp
        · exact List.mem_append_left _ hp
        · exact List.mem_append_right _ (List.mem_cons_of_mem _ hp)
      · by_cases hki : k = i
        · subst hki
          have hlt : k < listed.size := by rw [hsz]; exact (Array.getElem?_eq_some_iff.1 ho).1
          constructor
          · intro h; simp [hlt] at h
          · rintro ⟨o2, h2⟩
            exfalso
            rcases List.mem_append.1 h2 with h2 | h2
            · have := s3 _ h2 (k, o) List.mem_cons_self; simp only [] at this; omega
            · have := (List.pairwise_cons.1 s2).1 _ h2; simp only [] at this; omega
        · rw [getD_set_ne true (Ne.symm hki), hun k]
          constructor
          · rintro ⟨o2, h2⟩
            refine ⟨o2, ?_⟩
            rcases List.mem_append.1 h2 with h2 | h2
            · exact List.mem_append_left _ h2
            · rcases List.mem_cons.1 h2 with e | h2
              · cases e; exact absurd rfl hki
              · exact List.mem_append_right _ h2
          · rintro ⟨o2, h2⟩
            refine ⟨o2, ?_⟩
            rcases List.mem_append.1 h2 with h2 | h2
            · exact List.mem_append_left _ h2
            · exact List.mem_append_right _ (List.mem_cons_of_mem _ h2)
      · intro j2 hj2
        refine getD_set_true ?_
        by_cases hji : j = i
        · subst hji; rw [ho] at hj; cases hj; exact hpreds j2 hj2
        · rw [getD_set_ne false (Ne.symm hji)] at hD
          exact hdc j o2 hj hD j2 hj2
/-- What was noted, and all. -/
theorem runAcc_runF {all : List Oper} {md : Md} : ∀ {l : List (Nat × Oper)} {σ σ' : ASt} {B : List AcC}, runAcc cal T all md l σ = some (B, σ') → ∃ A, runF cal T all md l σ = some (A, σ') ∧ B = A.filter fun x => !(x.ids.isEmpty && !x.al)
  | [], σ, σ', B, h => by rw [runAcc] at h; cases h; exact ⟨[], rfl, rfl⟩
  | (k, o) :: l, σ, σ', B, h => by
    rw [runAcc] at h
    split at h
    · cases h
    · rename_i σ1 h1
      split at h
      · cases h
      · rename_i B1 σ2 h2
        cases h
        obtain ⟨A, h3, rfl⟩ := runAcc_runF h2
        refine ⟨accO T md.ad all k o σ σ1 :: A, runF_cons' h1 h3, ?_⟩
        rw [List.filter_cons]
        unfold noted
        cases hh : ((accO T md.ad all k o σ σ1).ids.isEmpty && !(accO T md.ad all k o σ σ1).al) <;> rfl
theorem clash_nil {a b : AcC} (h : (a.ids.isEmpty && !a.al) = true) : a.clash b = false ∧ b.clash a = false := by
  rw [Bool.and_eq_true] at h
  obtain ⟨h1, h2⟩ := h
  have h1' : a.ids = [] := by simpa using h1
  have h2' : a.al = false := by simpa using h2
  unfold AcC.clash meets
  rw [h1', h2']
  simp [mem]
theorem pairsOk_spec {an : List Nat} {two : Option (Nat × Nat)} : ∀ {A : List AcC}, pairsOk an two (A.filter fun x => !(x.ids.isEmpty && !x.al)) = true → PairsOK an two A
  | [], _ => List.Pairwise.nil
  | a :: A, h => by
    rw [List.filter_cons] at h
    cases hh : (a.ids.isEmpty && !a.al) with
    | true =>
      rw [hh] at h
      exact List.Pairwise.cons (fun b _ => .inr (.inl (clash_nil hh).1)) (pairsOk_spec h)
    | false =>
      rw [hh] at h
      simp only [Bool.not_false, if_true] at h
      rw [pairsOk, Bool.and_eq_true, List.all_eq_true] at h
      refine List.Pairwise.cons (fun b hb => ?_) (pairsOk_spec h.2)
      cases hb2 : (b.ids.isEmpty && !b.al) with
      | true => exact .inr (.inl (clash_nil hb2).2)
      | false =>
        have := h.1 b (List.mem_filter.2 ⟨hb, by rw [hb2]; rfl⟩)
        rw [Bool.or_eq_true, Bool.or_eq_true] at this
        rcases this with (h1 | h1) | h1
        · exact .inl h1
        · exact .inr (.inl (by simpa using h1))
        · exact .inr (.inr h1)
theorem numbered_get : ∀ (l : List Oper) (k j : Nat) (o : Oper), (j, o) ∈ numbered k l ↔ k ≤ j ∧ l[j - k]? = some o
  | [], k, j, o => by simp [numbered]
  | x :: l, k, j, o => by
    rw [numbered, List.mem_cons, numbered_get l]
    constructor
    · rintro (h | ⟨h1, h2⟩)
      · cases h; simp
      · refine ⟨by omega, ?_⟩
        rw [show j - k = j - (k + 1) + 1 by omega, List.getElem?_cons_succ]; exact h2
    · rintro ⟨h1, h2⟩
      by_cases e : j = k
      · subst e
        simp at h2
        left; rw [h2]
      · right
        refine ⟨by omega, ?_⟩
        rw [show j - k = j - (k + 1) + 1 by omega, List.getElem?_cons_succ] at h2
        exact h2
theorem numbered_len : ∀ (l : List Oper) (k : Nat), (numbered k l).length = l.length
  | [], k => rfl
  | x :: l, k => by rw [numbered, List.length_cons, List.length_cons, numbered_len l]
theorem numbered_sorted : ∀ (l : List Oper) (k : Nat), (numbered k l).Pairwise (fun p q => p.1 < q.1)
  | [], k => List.Pairwise.nil
  | x :: l, k => by
    rw [numbered]
    refine List.Pairwise.cons (fun p hp => ?_) (numbered_sorted l (k + 1))
    have := ((numbered_get l (k + 1) p.1 p.2).1 hp).1
    simp only []; omega
/-- The world behind a draw. -/
theorem Fr.drew : Fr m lim w lim { w with drawn := w.drawn + 1 } := by
  refine ⟨⟨rfl, rfl, rfl, Nat.le_refl _, fun _ _ => rfl⟩, fun _ _ _ => ⟨rfl, rfl⟩, fun _ _ => Nat.le_refl _, fun _ _ _ _ => rfl, fun b cur e p h => ⟨cur, h, rfl⟩⟩
theorem mode_sound (HT : TOK P T) (HC : CallsOK P cal) {md : Md} {ops : Array Oper} (hmd : md.ad = adOf ops.toList) (hko : keysOk ops.toList = true) (hdst : ∀ o ∈ ops.toList, ∀ k, o.dst = some k → k < a.tmps.size) {id : Nat} {Fin : ASt → Prop}
    (H : Hold lim bs w σ.bx (Sl σ.tm a) m) (hm : ∀ b, w.heap.size ≤ b → m b) (h : Mode cal T md ops.toList Fin (numbered 0 ops.toList) σ) (hK : ∀ σ', Fin σ' → Kont m lim bs w a σ' (Q .normal)) : (Code.region id ops true).wp P Q a w := by
  have hfr : Fr m lim w lim { w with drawn := w.drawn + 1 } := Fr.drew
  have H2 : Hold lim bs { w with drawn := w.drawn + 1 } σ.bx (Sl σ.tm a) m := (H.world (hfr.ext (fun _ _ h => h)) (fun b hb => ⟨rfl, H.free b hb⟩) (fun p g _ => ⟨rfl, rfl⟩) (fun b hb => H.top b hb)).1
  refine wp_region_any HT.mix (any_sound HT HC hmd hko hdst ops.size _ (by rw [numbered_len]; simp) (by simp) (numbered_sorted _ _) ?_ ?_ ?_ rfl H2 hm h ?_)
  · intro p hp
    have := ((numbered_get _ _ p.1 p.2).1 hp).2
    simpa using this
  · intro k
    constructor
    · intro hk
      have hlt : k < ops.size := by
        rcases Nat.lt_or_ge k ops.size with h' | h'
        · exact h'
        · simp [Array.getD, h'] at hk; omega
      exact ⟨ops[k], (numbered_get _ _ _ _).2 ⟨Nat.zero_le _, by simp [hlt]⟩⟩
    · rintro ⟨o, ho⟩
      have hh := ((numbered_get _ _ _ _).1 ho).2
      have hlt : k < ops.size := by simpa using (List.getElem?_eq_some_iff.1 hh).1
      simp [hlt]
  · intro j o hj hD
    exfalso
    rw [Array.getD_eq_getD_getElem?] at hD
    cases hh : (Array.replicate ops.size false)[j]? with
    | none => rw [hh] at hD; cases hD
    | some b =>
      rw [hh] at hD
      have := Array.getElem?_replicate (n := ops.size) (v := false) (i := j)
      rw [hh] at this
      split at this
      · cases this; cases hD
      · cases this
  · intro σ' hF lim' bs' w' a' hg
    exact hK σ' hF lim' bs' w' a' ⟨hg.hold, hfr.trans hg.fr, hg.pre, hg.nt, hg.df⟩
/-- A region that may go in more than one order. -/
theorem draw_mode {md : Md} {all : List Oper} (h : runDraw cal T md all σ = some σ') : Mode cal T md all (· = σ') (numbered 0 all) σ := by
  unfold runDraw at h
  split at h
  · rename_i B σ2 h1
    split at h
    · rename_i hp
      cases h
      obtain ⟨A, h2, rfl⟩ := runAcc_runF h1
      exact .inl ⟨A, _, h2, pairsOk_spec hp, rfl⟩
    · cases h
  · cases h
theorem draw2_mode {md : Md} {all : List Oper} {p q : Nat} (h : runDraw2 cal T md all p q σ = some (σ1, σ2)) : Mode cal T md all (fun τ => τ = σ1 ∨ τ = σ2) (numbered 0 all) σ := by
  unfold runDraw2 at h
  split at h
  · cases h
  rename_i oq hq
  split at h
  · cases h
  rename_i A σa h1
  split at h
  · cases h
  rename_i B σb h2
  split at h
  · rename_i hc
    cases h
    obtain ⟨c1, c2, c3, c4⟩ := hc
    obtain ⟨A', h3, rfl⟩ := runAcc_runF h1
    obtain ⟨B', h4, rfl⟩ := runAcc_runF h2
    have hpq : p < q := by simpa using c1
    exact .inr ⟨p, q, oq, A', B', _, _, hpq, (numbered_get _ _ _ _).2 ⟨Nat.zero_le _, hq⟩, hq, by simpa using c2, h3, h4, pairsOk_spec c3, pairsOk_spec c4, .inl rfl, .inr rfl⟩
  · cases h
end Ab
end Go.Proofs.YtlmjabnkjmfcmaaGreat
/- A run on abstract values: code. -/
namespace Go.Proofs.YtlmjabnkjmfcmaaGreat
open Go Go.RowKit Go.PlainAid
set_option linter.unusedVariables false
set_option linter.unusedSimpArgs false
namespace Ab
variable {lim lim' : Nat → Nat} {bs bs' : List Nat} {w w' : World} {P : Program} {T : Tab} {a : Act} {o : Oper} {cs : List (List AV)} {m : Nat → Prop} {bx bx' : List (List AV)} {S S' : Slots} {K : Act → World → Prop} {Q : Exit → Act → World → Prop} {cal : Cal} {σ σ' σ1 σ2 : ASt}
theorem Hold.prune (H : Hold lim bs w σ.bx (Sl σ.tm a) m) (ks : List Nat) : Hold lim bs w σ.bx (Sl (prune ks σ.tm) a) m :=
  (H.sub (S' := Sl (Ab.prune ks σ.tm) a) (fun k => ⟨rfl, (get_prune ks σ.tm k).imp id .inr⟩)).1
theorem take_get {α : Type} {l : List α} {n i : Nat} {x : α} (h : (l.take n)[i]? = some x) : i < n ∧ l[i]? = some x := by
  rw [List.getElem?_take] at h
  split at h
  · rename_i hi; exact ⟨hi, h⟩
  · cases h
/-- Some boxes alone, by new numbers. -/
theorem Hold.pick (H : Hold lim bs w bx S m) {ids : List Nat} (hn : ids.Nodup) (hc : conts bx ids = some cs) (hcl : ∀ c ∈ cs, ∀ i ∈ AV.idss c, i ∈ ids) (hS : ∀ k, ∀ i ∈ (S k).1.ids, i ∈ ids) :
    Hold lim (ids.map fun i => bs.getD i 0) w (cs.map (AV.rens ids.idxOf)) (fun k => ((S k).1.ren ids.idxOf, (S k).2)) m ∧ (∀ (k i b : Nat), ids[k]? = some i → bs[i]? = some b → (ids.map fun i => bs.getD i 0)[k]? = some b) ∧
    ∀ p g, Own w (ids.map fun i => bs.getD i 0) (cs.map (AV.rens ids.idxOf)) (fun k => ((S k).1.ren ids.idxOf, (S k).2)) p g → ∃ q, Own w bs bx S q g ∧ ((∃ k, p = .t k ∧ q = .t k) ∨ ∃ k i j, p = .b k j ∧ q = .b i j ∧ ids[k]? = some i) := by
  obtain ⟨hcl2, hcg⟩ := conts_len hc
  have hin : ∀ i ∈ ids, i < bs.length := by
    intro i hi
    obtain ⟨k, hk, rfl⟩ := List.getElem_of_mem hi
    obtain ⟨c, h1, -⟩ := hcg k _ (List.getElem?_eq_getElem hk)
    rw [H.len]
    exact (List.getElem?_eq_some_iff.1 h1).1
  have hget : ∀ (k b : Nat), (ids.map fun i => bs.getD i 0)[k]? = some b → ∃ i, ids[k]? = some i ∧ bs[i]? = some b := by
    intro k b hk
    rw [List.getElem?_map] at hk
    cases hi : ids[k]? with
    | none => rw [hi] at hk; cases hk
    | some i =>
      rw [hi] at hk
      simp only [Option.map_some, Option.some.injEq] at hk
      have hlt := hin i (List.mem_of_getElem? hi)
      refine ⟨i, rfl, ?_⟩
      rw [← hk]; simp [hlt]
  have hgetc : ∀ (k : Nat) (x : List AV), (cs.map (AV.rens ids.idxOf))[k]? = some x → ∃ c, cs[k]? = some c ∧ x = AV.rens ids.idxOf c := by
    intro k x hk
    rw [List.getElem?_map] at hk
    cases hi : cs[k]? with
    | none => rw [hi] at hk; cases hk
    | some c => rw [hi] at hk; cases hk; exact ⟨c, rfl, rfl⟩
  have hsub : ∀ b, b ∈ (ids.map fun i => bs.getD i 0) → b ∈ bs := fun b hb => by
    obtain ⟨k, hk⟩ := List.getElem?_of_mem hb
    obtain ⟨i, -, h⟩ := hget k b hk
    exact List.mem_of_getElem? h
  have hmg := map_get bs ids hin
  have ho : ∀ p g, Own w (ids.map fun i => bs.getD i 0) (cs.map (AV.rens ids.idxOf)) (fun k => ((S k).1.ren ids.idxOf, (S k).2)) p g → ∃ q, Own w bs bx S q g ∧ ((∃ k, p = .t k ∧ q = .t k) ∨ ∃ k i j, p = .b k j ∧ q = .b i j ∧ ids[k]? = some i) := by
    intro p g hp
    cases p with
    | t k =>
      obtain ⟨h1, h2⟩ := hp
      exact ⟨.t k, ⟨by rw [AV.isRow_ren] at h1; exact h1, h2⟩, .inl ⟨k, rfl, rfl⟩⟩
    | b k j =>
      obtain ⟨b, x, y, v, q1, q2, q3, q4, q5, q6⟩ := hp
      obtain ⟨i, h1, h2⟩ := hget k b q1
      obtain ⟨c, h3, h4⟩ := hcg k i h1
      obtain ⟨c', h5, h6⟩ := hgetc k x q2
      rw [h4] at h5; cases h5
      subst h6
      obtain ⟨z, hz, rfl⟩ := rens_get q3
      rw [AV.isRow_ren] at q4
      exact ⟨.b i j, ⟨b, c, z, v, h2, h3, hz, q4, q5, q6⟩, .inr ⟨k, i, j, rfl, rfl, h1⟩⟩
  refine ⟨⟨by rw [List.length_map, List.length_map, hcl2], nodup_of_inj fun i j x hi hj => ?_, fun b hb => H.free b (hsub b hb), fun b hb => H.mb b (hsub b hb), fun k b x hk hx => ?_, fun k => ?_, fun k => ?_, H.top, fun p g hp => ?_, fun p q g hp hq => ?_⟩, hmg, ho⟩
  · obtain ⟨i1, a1, a2⟩ := hget i x hi
    obtain ⟨j1, b1, b2⟩ := hget j x hj
    have := nodup_inj H.nod a2 b2
    subst this
    exact nodup_inj hn a1 b1
  · obtain ⟨i, h1, h2⟩ := hget k b hk
    obtain ⟨c, h3, h4⟩ := hcg k i h1
    obtain ⟨c', h5, h6⟩ := hgetc k x hx
    rw [h4] at h5; cases h5
    subst h6
    obtain ⟨C, tl, t, g1, g2, g3⟩ := H.box i b c h2 h3
    exact ⟨C, tl, t, g1, AV.Rs.ren (ren_ok hmg (hcl c (List.mem_of_getElem? h4))) g2, tops_rens g3⟩
  · exact AV.R.ren (ren_ok hmg (hS k)) (H.slot k)
  · show ((S k).1.ren _).top = true
    rw [AV.top_ren]; exact H.slotT k
  · obtain ⟨q, hq, -⟩ := ho p g hp
    exact ⟨(H.own q g hq).1, fun h => (H.own q g hq).2 (hsub g h)⟩
  · obtain ⟨p', hp', e1⟩ := ho p g hp
    obtain ⟨q', hq', e2⟩ := ho q g hq
    have := H.dist p' q' g hp' hq'
    subst this
    rcases e1 with ⟨k, a1, a2⟩ | ⟨k, i, j, a1, a2, a3⟩
    · rcases e2 with ⟨k2, b1, b2⟩ | ⟨k2, i2, j2, b1, b2, b3⟩
      · rw [a2] at b2; cases b2; rw [a1, b1]
      · rw [a2] at b2; cases b2
    · rcases e2 with ⟨k2, b1, b2⟩ | ⟨k2, i2, j2, b1, b2, b3⟩
      · rw [a2] at b2; cases b2
      · rw [a2] at b2; cases b2
        have := nodup_inj hn a3 b3
        rw [a1, b1, this]
theorem reach_pre : ∀ (n : Nat) (bx : List (List AV)) (todo seen : List Nat), ∃ r, reach n bx todo seen = seen ++ r
  | 0, _, _, seen => ⟨[], by rw [reach, List.append_nil]⟩
  | n + 1, bx, [], seen => ⟨[], by rw [reach, List.append_nil]⟩
  | n + 1, bx, j :: t, seen => by
    rw [reach]
    split
    · exact reach_pre n bx t seen
    · obtain ⟨r, h⟩ := reach_pre n bx (AV.idss (bx.getD j []) ++ t) (seen ++ [j])
      exact ⟨[j] ++ r, by rw [h, List.append_assoc]⟩
/-- What is picked: the first ones as they stood. -/
theorem pick_inv {n : Nat} {l ids : List Nat} (h : Ab.pick n bx l = some (ids, bx')) : ids.Nodup ∧ (∀ i, i < n → ids[i]? = some i) ∧ (∃ cs, conts bx ids = some cs ∧ bx' = cs.map (AV.rens ids.idxOf) ∧ ∀ c ∈ cs, ∀ i ∈ AV.idss c, i ∈ ids) ∧ ∀ i ∈ l, i ∈ ids := by
  unfold Ab.pick at h
  split at h
  · cases h
  rename_i cs hcs
  split at h
  case isFalse => cases h
  rename_i hc
  cases h
  obtain ⟨c1, c2⟩ := hc
  rw [List.all_eq_true] at c1
  refine ⟨reach_nodup _ _ _ _ List.nodup_range, fun i hi => ?_, ⟨cs, hcs, rfl, fun c hc => subs_iff.1 (c1 c hc)⟩, subs_iff.1 c2⟩
  unfold keepIds
  obtain ⟨r, h⟩ := reach_pre 1000000 bx (AV.idss ((bx.take n).flatMap id) ++ l) (List.range n)
  rw [h, List.getElem?_append_left (by rw [List.length_range]; exact hi), List.getElem?_range hi]
theorem get_tmRen (f : Nat → Nat) : ∀ (tm : Tm) (k : Nat), get (tmRen f tm) k = (get tm k).ren f
  | [], k => rfl
  | (j, v) :: r, k => by
    rw [tmRen, get_cons, get_cons]
    split
    · rfl
    · exact get_tmRen f r k
theorem get_tmIds {i : Nat} : ∀ {tm : Tm} {k : Nat}, i ∈ (get tm k).ids → i ∈ tmIds tm
  | [], k, h => by simp [get, AV.ids] at h
  | (j, v) :: r, k, h => by
    rw [get_cons] at h
    rw [tmIds]
    split at h
    · exact List.mem_append_left _ h
    · exact List.mem_append_right _ (get_tmIds h)
/-- Boxes that nothing points to are let go. -/
theorem back_sound (H : Hold lim bs w σ.bx (Sl σ.tm a) m) {n : Nat} (h : back n σ = some σ') : ∃ bs', Hold lim bs' w σ'.bx (Sl σ'.tm a) m ∧ ∀ (i b : Nat), i < n → bs[i]? = some b → bs'[i]? = some b := by
  unfold back at h
  split at h
  · cases h
  rename_i ids bx2 hp
  cases h
  obtain ⟨h1, h2, ⟨cs, h3, rfl, h4⟩, h5⟩ := pick_inv hp
  obtain ⟨HP, hmg, -⟩ := H.pick h1 h3 h4 (fun k i hi => h5 i (get_tmIds (tm := σ.tm) (k := k) hi))
  refine ⟨_, ?_, fun i b hi hb => hmg i i b (h2 i hi) hb⟩
  have : (Sl (tmRen ids.idxOf σ.tm) a) = fun k => ((Sl σ.tm a k).1.ren ids.idxOf, (Sl σ.tm a k).2) := by
    funext k
    unfold Sl
    rw [get_tmRen]
  show Hold lim _ w _ (Sl (tmRen ids.idxOf σ.tm) a) m
  rw [this]
  exact HP
def exOf : AEx → Exit
  | .normal => .normal
  | .exit i => .exit i
  | .ret => .ret
theorem aeval_val (x : Operand) (H : Hold lim bs w σ.bx (Sl σ.tm a) m) {t : Bool} (h : val σ.tm x = .bool t) : a.eval x = .bool t := by
  cases x with
  | tmp k =>
    have h1 := H.slot k
    rw [show (Sl σ.tm a k).1 = get σ.tm k from rfl, show get σ.tm k = .bool t from h, AV.R] at h1
    exact h1
  | const v =>
    have h1 : cst v = .bool t := h
    unfold cst at h1
    split at h1 <;> first | cases h1 | skip
    rfl
  | func f => cases h
  | global g => cases h
/-- Code's law: of a loop, its rounds. -/
def CW (P : Program) (n : Nat) (Q : Exit → Act → World → Prop) (a : Act) (w : World) : Code → Prop
  | .loop x => Code.rounds P x Q n a w
  | c => c.wp P Q a w
theorem CW.wp {n : Nat} : ∀ {c : Code}, CW P n Q a w c → c.wp P Q a w := by
  intro c h
  cases c <;> first | exact h | exact wp_loop_rounds n h
theorem len_of_pre {n0 : Nat} (hb : n0 ≤ bs.length) (h : ∀ (i b : Nat), i < n0 → bs[i]? = some b → bs'[i]? = some b) : n0 ≤ bs'.length := by
  rcases Nat.eq_zero_or_pos n0 with e | e
  · omega
  · have := h (n0 - 1) _ (by omega) (List.getElem?_eq_getElem (show n0 - 1 < bs.length by omega))
    have := (List.getElem?_eq_some_iff.1 this).1
    omega
theorem reg_sound (HT : TOK P T) (HC : CallsOK P cal) {an : Ann} {base i n0 : Nat} {ops : Array Oper} {draw : Bool} (hg : good n0 (.region i ops draw) = true) (hn : n0 ≤ a.tmps.size) (hbase : base ≤ σ.bx.length) (H : Hold lim bs w σ.bx (Sl σ.tm a) m) (hm : ∀ b, w.heap.size ≤ b → m b) (h : runReg cal T an base i ops draw σ = some σ') (hK : KontB base m lim bs w a σ' (Q .normal)) : (Code.region i ops draw).wp P Q a w := by
  rw [good, Bool.and_eq_true] at hg
  have hdst : ∀ o ∈ ops.toList, ∀ d, o.dst = some d → d < a.tmps.size := by
    intro o ho d hd
    have h1 := hg.1
    rw [List.all_eq_true] at h1
    have := h1 o ho
    rw [hd] at this
    simp only [decide_eq_true_eq] at this
    exact Nat.lt_of_lt_of_le this hn
  have hpr : ∀ {τ : ASt}, KontB base m lim bs w a (prunes an i τ) (Q .normal) → KontB base m lim bs w a τ (Q .normal) := fun h lim' bs' w' a' hgo => h lim' bs' w' a' ⟨hgo.hold.prune _, hgo.fr, hgo.pre, hgo.nt, hgo.df⟩
  unfold runReg at h
  split at h
  · cases hr : runOps cal T ops.toList ⟨adOf ops.toList ++ an.adl, an.arr, base⟩ ops.toList σ with
    | none => rw [hr] at h; cases h
    | some τ =>
      rw [hr] at h; cases h
      exact wp_region_list (list_sound (md := ⟨adOf ops.toList ++ an.adl, an.arr, base⟩) HT HC hdst ops.toList (fun _ h => h) rfl H hm hr (hpr hK))
  · have hko : keysOk ops.toList = true := by simpa using hg.2
    split at h
    · cases hr : runDraw cal T ⟨adOf ops.toList, an.arr, base⟩ ops.toList σ with
      | none => rw [hr] at h; cases h
      | some τ =>
        rw [hr] at h; cases h
        refine mode_sound (md := ⟨adOf ops.toList, an.arr, base⟩) HT HC rfl hko hdst H hm (draw_mode hr) (fun σ' hF => ?_)
        subst hF
        exact (hpr hK).all
    · split at h
      · cases h
      rename_i σa σb hr
      split at h
      · rename_i τ τ' h1 h2
        split at h
        · rename_i he
          cases h
          have he := beqσ_eq he
          rw [← he] at h2
          refine mode_sound (md := ⟨adOf ops.toList, an.arr, base⟩) HT HC rfl hko hdst H hm (draw2_mode hr) (fun ρ hF => ?_)
          have hb : ∃ ρ0, ρ0 = prunes an i ρ ∧ back σ.bx.length ρ0 = some σ' := by
            rcases hF with e | e
            · exact ⟨_, rfl, by rw [e]; exact h1⟩
            · exact ⟨_, rfl, by rw [e]; exact h2⟩
          obtain ⟨ρ0, e0, hb⟩ := hb
          intro lim' bs' w' a' hgo
          have hP := hgo.hold.prune (an.live.getD i [])
          obtain ⟨bs2, g1, g2⟩ := back_sound (σ := ρ0) (by rw [e0]; exact hP) hb
          exact hK lim' bs2 w' a' ⟨g1, hgo.fr, fun j b hj hb => g2 j b (by omega) (hgo.pre j b hb), hgo.nt, hgo.df⟩
        · cases h
      · cases h
theorem code_sound' (HT : TOK P T) (HC : CallsOK P cal) {an : Ann} {base n0 : Nat} : ∀ (n : Nat) (c : Code) {lim : Nat → Nat} {bs : List Nat} {w : World} {σ σ' : ASt} {a : Act} {e : AEx} {Q : Exit → Act → World → Prop}, good n0 c = true → n0 ≤ a.tmps.size → base ≤ σ.bx.length → Hold lim bs w σ.bx (Sl σ.tm a) m → (∀ b, w.heap.size ≤ b → m b) → aCode cal T an base n c σ = some (e, σ') → KontB base m lim bs w a σ' (Q (exOf e)) → CW P n Q a w c := by
  intro n
  induction n with
  | zero => intro c lim bs w σ σ' a e Q _ _ _ _ _ h _; unfold aCode at h; cases h
  | succ n ih =>
    intro c lim bs w σ σ' a e Q hg hn hb H hm h hK
    have hlen : ∀ {lim' : Nat → Nat} {bs' : List Nat} {w' : World} {a' : Act} {τ : ASt}, GoesB base m lim bs w a τ lim' bs' w' a' → base ≤ τ.bx.length := fun hgo => by
      have := len_of_pre (by rw [H.len]; exact hb) hgo.pre
      rw [hgo.hold.len] at this; exact this
    unfold aCode at h
    split at h
    · cases h; exact wp_skip (hK lim bs w a ⟨H, Fr.refl, fun _ _ _ h => h, rfl, rfl⟩)
    · rename_i i ops draw
      split at h
      · rename_i σ1 h1
        cases h
        exact reg_sound HT HC hg hn hb H hm h1 hK
      · cases h
    · rename_i x y
      rw [good, Bool.and_eq_true] at hg
      split at h
      · rename_i σ1 h1
        refine wp_seq (CW.wp <| ih x hg.1 hn hb H hm h1 fun lim1 bs1 w1 a1 hgo => ?_)
        exact CW.wp <| ih y hg.2 (by rw [hgo.nt]; exact hn) (hlen hgo) hgo.hold (fun b hb => hm b (Nat.le_trans hgo.fr.bel.size hb)) h (fun lim2 bs2 w2 a2 hg2 => hK lim2 bs2 w2 a2 (hgo.trans hg2))
      · rename_i hne
        refine wp_seq (CW.wp <| ih x hg.1 hn hb H hm h fun lim1 bs1 w1 a1 hgo => ?_)
        cases e with
        | normal => exact absurd h (hne _)
        | exit i => exact hK lim1 bs1 w1 a1 hgo
        | ret => exact hK lim1 bs1 w1 a1 hgo
    · rename_i x y z
      rw [good, Bool.and_eq_true] at hg
      split at h
      · rename_i t ht
        refine wp_cond (aeval_val x H ht) ?_
        refine CW.wp <| ih _ ?_ hn hb H hm h hK
        cases t
        · exact hg.2
        · exact hg.1
      · cases h
    · rename_i i x
      rw [good] at hg
      split at h
      · rename_i j σ1 h1
        cases h
        refine wp_block (CW.wp <| ih x hg hn hb H hm h1 fun lim1 bs1 w1 a1 hgo => ?_)
        show if j = i then Q .normal a1 w1 else Q (.exit j) a1 w1
        have := hK lim1 bs1 w1 a1 hgo
        split
        · rename_i e; rw [if_pos e] at this; exact this
        · rename_i e; rw [if_neg e] at this; exact this
      · rename_i hne
        refine wp_block (CW.wp <| ih x hg hn hb H hm h fun lim1 bs1 w1 a1 hgo => ?_)
        cases e with
        | normal => exact hK lim1 bs1 w1 a1 hgo
        | exit j => exact absurd h (hne _ _)
        | ret => exact hK lim1 bs1 w1 a1 hgo
    · rename_i x
      rw [good] at hg
      show x.wp P (Exit.then (Code.rounds P x Q n) Q) a w
      split at h
      · rename_i σ1 h1
        split at h
        · rename_i σ2 h2
          refine CW.wp (ih x hg hn hb H hm h1 fun lim1 bs1 w1 a1 hgo => ?_)
          obtain ⟨bs2, g1, g2⟩ := back_sound hgo.hold h2
          have hg1 : GoesB base m lim bs w a σ2 lim1 bs2 w1 a1 := ⟨g1, hgo.fr, fun i b hi hbb => g2 i b (by omega) (hgo.pre i b hi hbb), hgo.nt, hgo.df⟩
          exact ih (.loop x) (by rw [good]; exact hg) (by rw [hgo.nt]; exact hn) (hlen hg1) g1 (fun b hb => hm b (Nat.le_trans hgo.fr.bel.size hb)) h (fun lim2 bs3 w2 a2 hg2 => hK lim2 bs3 w2 a2 (hg1.trans hg2))
        · cases h
      · rename_i hne
        refine CW.wp (ih x hg hn hb H hm h fun lim1 bs1 w1 a1 hgo => ?_)
        cases e with
        | normal => exact absurd h (hne _)
        | exit i => exact hK lim1 bs1 w1 a1 hgo
        | ret => exact hK lim1 bs1 w1 a1 hgo
    · cases h; exact wp_exit (hK lim bs w a ⟨H, Fr.refl, fun _ _ _ h => h, rfl, rfl⟩)
    · cases h; exact wp_ret (hK lim bs w a ⟨H, Fr.refl, fun _ _ _ h => h, rfl, rfl⟩)
    · cases h
theorem code_sound (HT : TOK P T) (HC : CallsOK P cal) {an : Ann} {base n0 n : Nat} {c : Code} {e : AEx} (hg : good n0 c = true) (hn : n0 ≤ a.tmps.size) (hb : base ≤ σ.bx.length) (H : Hold lim bs w σ.bx (Sl σ.tm a) m) (hm : ∀ b, w.heap.size ≤ b → m b) (h : aCode cal T an base n c σ = some (e, σ')) (hK : KontB base m lim bs w a σ' (Q (exOf e))) : c.wp P Q a w :=
  CW.wp (code_sound' HT HC n c hg hn hb H hm h hK)
end Ab
end Go.Proofs.YtlmjabnkjmfcmaaGreat
/- A run on abstract values: what a call hands back; calls, all told. -/
namespace Go.Proofs.YtlmjabnkjmfcmaaGreat
open Go Go.RowKit Go.PlainAid
set_option linter.unusedVariables false
set_option linter.unusedSimpArgs false
namespace Ab
variable {lim lim' : Nat → Nat} {bs bs' : List Nat} {w w' : World} {P : Program} {T : Tab} {a : Act} {o : Oper} {m : Nat → Prop} {bx bx' : List (List AV)} {S S' : Slots} {K : Act → World → Prop} {Q : Exit → Act → World → Prop} {cal : Cal} {σ σ' σ1 σ2 : ASt}
/-- One variable of the results. -/
def resVar (tmps : Array Value) : ResultVar → Sem Value
  | .tmp t => pure (tmps.getD t undef)
  | .cell a t => do loadVar t (← asAddr (tmps.getD a undef))
theorem mapM_run {α : Type} {f : α → Sem Value} : ∀ {l : List α} {us : List Value}, us.length = l.length → (∀ (i : Nat) (x : α) (u : Value), l[i]? = some x → us[i]? = some u → (f x).run P w = .ok u w) → (l.mapM f).run P w = .ok us w
  | [], us, h, _ => by
    obtain rfl := List.eq_nil_of_length_eq_zero h
    rfl
  | x :: l, [], h, _ => by simp at h
  | x :: l, u :: us, h, hf => by
    rw [List.mapM_cons, Sem.run_bind, hf 0 x u rfl rfl]
    show Sem.run P (l.mapM f >>= _) w = _
    rw [Sem.run_bind, mapM_run (by simpa using h) (fun i y v hy hv => hf (i + 1) y v (by simpa using hy) (by simpa using hv))]
    rfl
def retOf (us : List Value) : Value :=
  match us with
  | [u] => u
  | us => .tuple us.toArray
theorem run_results {fn : Func} {tmps : Array Value} {us : List Value} (hl : us.length = fn.results.toList.length) (h : ∀ (i : Nat) (x : ResultVar) (u : Value), fn.results.toList[i]? = some x → us[i]? = some u → (resVar tmps x).run P w = .ok u w) : (results fn tmps).run P w = .ok (retOf us) w := by
  have he : results fn tmps = (do
      let vs ← fn.results.mapM (resVar tmps)
      pure (if h : vs.size = 1 then vs[0] else .tuple vs)) := by
    unfold results
    congr 1
  rw [he, Array.mapM_eq_mapM_toList, Sem.run_bind]
  have hm : ((fun l : List Value => l.toArray) <$> List.mapM (resVar tmps) fn.results.toList : Sem (Array Value)).run P w = .ok us.toArray w := by
    rw [map_eq_pure_bind, Sem.run_bind, mapM_run hl h]; rfl
  rw [hm]
  by_cases e : us.length = 1
  · obtain ⟨u, rfl⟩ := List.length_eq_one_iff.1 e
    rfl
  · have hr : retOf us = .tuple us.toArray := by
      unfold retOf
      split
      · exact absurd rfl e
      · rfl
    rw [hr]
    have e2 : ¬ us.toArray.size = 1 := by simpa using e
    show Sem.run P (pure (if h : us.toArray.size = 1 then us.toArray[0] else .tuple us.toArray)) w = _
    rw [dif_neg e2]
    rfl
theorem run_resCell {t : Nat} {v u : Value} (h : (Instr.loadAt t v).run P w = .ok u w) {ad : Addr} (hv : v = .pointer (some ad)) : (do loadVar t (← asAddr v) : Sem Value).run P w = .ok u w := by
  subst hv
  rw [← h]
  rfl
/-- A result: its value, and whose row it is. -/
theorem res1_sound (HT : TOK P T) (H : Hold lim bs w σ.bx (Sl σ.tm a) m) {n : Nat} {r : ResultVar} {v : AV} (h : aRes1 T n σ r = some v) : ∃ u, (resVar a.tmps r).run P w = .ok u w ∧ AV.R lim bs w v u ∧ v.top = true ∧ ∀ g, v.isRow = true → u.ownBlock = some g → ∃ t, Own w bs σ.bx (Sl σ.tm a) (.t t) g := by
  cases r with
  | tmp t =>
    cases h
    exact ⟨_, rfl, H.slot t, H.slotT t, fun g h1 h2 => ⟨t, ⟨h1, h2⟩⟩⟩
  | cell ad t =>
    simp only [aRes1] at h
    unfold with1 at h
    split at h
    · cases h
    rename_i d hd
    split at h
    case h_2 => cases h
    rename_i i o' hi
    split at h
    · cases h
    rename_i c hc
    have hx := H.slot ad
    rw [show (Sl σ.tm a ad).1 = get σ.tm ad from rfl, hi, AV.R] at hx
    obtain ⟨b, hb, hx⟩ := hx
    have hx2 : a.tmps.getD ad undef = .pointer (some ⟨b, o', none⟩) := hx
    obtain ⟨C, tl, tt, h1, h2, h3⟩ := H.box i b c hb hc
    have hcell : ∀ (j : Nat) (v : Value), C[j]? = some v → w.cell? ⟨b, j, none⟩ = some v := fun j v hv => heap_cellP h1 hv
    simp only [] at h
    split at h
    · rename_i ha
      split at h
      case isFalse => cases h
      rename_i hl
      cases h
      have hlen := AV.Rs_len h2
      have hl2 : ((C.drop o').take d.size).length = d.size := by rw [List.length_take, List.length_drop]; omega
      have hcc : ∀ (j : Nat) (v : Value), ((C.drop o').take d.size)[j]? = some v → w.cell? ⟨b, o' + j, none⟩ = some v := by
        intro j v hj
        obtain ⟨-, hj⟩ := take_get hj
        rw [List.getElem?_drop] at hj; exact hcell _ v hj
      refine ⟨_, run_resCell (run_load_row HT hd ha hl2 hcc) rfl |> fun h => (show (resVar a.tmps (.cell ad t)).run P w = _ by show (do loadVar t (← asAddr (a.tmps.getD ad undef)) : Sem Value).run P w = _; rw [hx2]; exact h), ?_, ?_, fun g hh => by cases hh⟩
      · rw [AV.R]
        exact ⟨_, rfl, by simpa using Rs_map_dem (Rs_take (Rs_drop h2))⟩
      · have htop : ((c.drop o').take d.size).all AV.top = true := by
          rw [List.all_eq_true] at h3 ⊢
          exact fun y hy => h3 y (List.mem_of_mem_drop (List.mem_of_mem_take hy))
        show (false || AV.flats _) = true
        rw [flats_map_dem htop (Rs_take (Rs_drop h2))]; rfl
    · rename_i ha
      cases hco : c[o']? with
      | none => rw [hco] at h; cases h
      | some v0 =>
        rw [hco] at h
        cases h
        obtain ⟨u, e1, e2⟩ := Rs_get h2 hco
        obtain ⟨ud, hu, hr, -⟩ := HT.und t d hd
        have hvt : v0.top = true := by
          rw [List.all_eq_true] at h3
          exact h3 v0 (List.mem_of_getElem? hco)
        refine ⟨u, run_resCell (run_load_one hu (by rw [hr]; simpa using ha) (hcell o' u e1)) rfl |> fun h => (show (resVar a.tmps (.cell ad t)).run P w = _ by show (do loadVar t (← asAddr (a.tmps.getD ad undef)) : Sem Value).run P w = _; rw [hx2]; exact h), e2.dem, ?_, fun g g1 => by rw [dem_row] at g1; cases g1⟩
        unfold AV.top
        rw [AV.R.dem_flat hvt e2]; simp
theorem ress_sound (HT : TOK P T) (H : Hold lim bs w σ.bx (Sl σ.tm a) m) {n : Nat} : ∀ {l : List ResultVar} {vs : List AV}, aRess T n σ l = some vs → ∃ us : List Value, us.length = l.length ∧ vs.length = l.length ∧ (∀ (i : Nat) (r : ResultVar) (u : Value), l[i]? = some r → us[i]? = some u → (resVar a.tmps r).run P w = .ok u w) ∧ AV.Rs lim bs w vs us ∧ vs.all AV.top = true ∧ ∀ v u, vs = [v] → us = [u] → ∀ g, v.isRow = true → u.ownBlock = some g → ∃ t, Own w bs σ.bx (Sl σ.tm a) (.t t) g
  | [], vs, h => by
    rw [aRess] at h; cases h
    exact ⟨[], rfl, rfl, fun i r u h => by simp at h, by rw [AV.Rs], rfl, fun v u h => by cases h⟩
  | r :: l, vs, h => by
    rw [aRess] at h
    split at h
    · rename_i v vs' h1 h2
      cases h
      obtain ⟨u, a1, a2, a3, a4⟩ := res1_sound HT H h1
      obtain ⟨us, b1, b2, b3, b4, b5, -⟩ := ress_sound HT H h2
      refine ⟨u :: us, by simp [b1], by simp [b2], fun i r' u' hi hu => ?_, by rw [AV.Rs]; exact ⟨u, us, rfl, a2, b4⟩, by rw [List.all_cons, a3, b5]; rfl, fun v' u' hv hu => ?_⟩
      · cases i with
        | zero => simp at hi hu; subst hi hu; exact a1
        | succ i => exact b3 i r' u' (by simpa using hi) (by simpa using hu)
      · cases hv; cases hu; exact a4
    · cases h
theorem rets_sound (HT : TOK P T) (H : Hold lim bs w σ.bx (Sl σ.tm a) m) {n : Nat} {fn : Func} {vs : List AV} (h : aRess T n σ fn.results.toList = some vs) : ∃ u, (results fn a.tmps).run P w = .ok u w ∧ Hold lim bs w σ.bx (rS (aRet vs) u) m := by
  obtain ⟨us, b1, b2, b3, b4, b5, b6⟩ := ress_sound HT H h
  refine ⟨retOf us, run_results b1 b3, ?_⟩
  have hus := AV.Rs_len b4
  have hR : AV.R lim bs w (aRet vs) (retOf us) ∧ (aRet vs).top = true ∧ ∀ g, (aRet vs).isRow = true → (retOf us).ownBlock = some g → ∃ t, Own w bs σ.bx (Sl σ.tm a) (.t t) g := by
    unfold aRet
    split
    · rename_i v
      obtain ⟨u, rfl⟩ := List.length_eq_one_iff.1 hus
      rw [AV.Rs] at b4
      obtain ⟨u', r', e, g1, -⟩ := b4
      cases e
      rw [List.all_cons, Bool.and_eq_true] at b5
      exact ⟨g1, b5.1, b6 v u rfl rfl⟩
    · rename_i hne
      have hne2 : retOf us = .tuple us.toArray := by
        unfold retOf
        split
        · rename_i u
          obtain ⟨v, rfl⟩ := List.length_eq_one_iff.1 hus.symm
          exact absurd rfl (hne v)
        · rfl
      rw [hne2]
      refine ⟨?_, ?_, fun g hh => by cases hh⟩
      · rw [AV.R]; exact ⟨_, rfl, by simpa using Rs_map_dem b4⟩
      · show (false || AV.flats _) = true
        rw [flats_map_dem b5 b4]; rfl
  obtain ⟨r1, r2, r4⟩ := hR
  have ho : ∀ p g, Own w bs σ.bx (rS (aRet vs) (retOf us)) p g → ∃ q, Own w bs σ.bx (Sl σ.tm a) q g ∧ ((p = .t 0 ∧ ∃ t, q = .t t) ∨ (q = p ∧ ∃ i j, p = .b i j)) := by
    intro p g hp
    cases p with
    | t k =>
      obtain ⟨p1, p2⟩ := hp
      by_cases hk : k = 0
      · subst hk
        obtain ⟨t, q1⟩ := r4 g p1 p2
        exact ⟨.t t, q1, .inl ⟨rfl, t, rfl⟩⟩
      · have : (rS (aRet vs) (retOf us) k).1 = .bad := by unfold rS; rw [if_neg hk]
        rw [this] at p1; cases p1
    | b i j => exact ⟨.b i j, hp, .inr ⟨rfl, i, j, rfl⟩⟩
  refine ⟨H.len, H.nod, H.free, H.mb, H.box, fun k => ?_, fun k => ?_, H.top, fun p g hp => ?_, fun p q g hp hq => ?_⟩
  · unfold rS
    split
    · exact r1
    · exact R_bad _
  · unfold rS
    split
    · exact r2
    · rfl
  · obtain ⟨q, hq, -⟩ := ho p g hp
    exact H.own q g hq
  · obtain ⟨p', hp', e1⟩ := ho p g hp
    obtain ⟨q', hq', e2⟩ := ho q g hq
    have := H.dist p' q' g hp' hq'
    subst this
    rcases e1 with ⟨e1, t1, f1⟩ | ⟨e1, i1, j1, f1⟩
    · rcases e2 with ⟨e2, t2, f2⟩ | ⟨e2, i2, j2, f2⟩
      · rw [e1, e2]
      · rw [f1] at e2; rw [← e2] at f2; cases f2
    · rcases e2 with ⟨e2, t2, f2⟩ | ⟨e2, i2, j2, f2⟩
      · rw [f2] at e1; rw [← e1] at f1; cases f1
      · rw [← e1, ← e2]
/-! ### What is frozen -/
theorem mapO_get {g : AV → Option AV} : ∀ {l l' : List AV}, mapO g l = some l' → l'.length = l.length ∧ ∀ (i : Nat) (x : AV), l[i]? = some x → ∃ y, l'[i]? = some y ∧ g x = some y
  | [], l', h => by rw [mapO] at h; cases h; exact ⟨rfl, fun i x h => by simp at h⟩
  | z :: l, l', h => by
    rw [mapO] at h
    split at h
    · rename_i y r h1 h2
      cases h
      obtain ⟨g1, g2⟩ := mapO_get h2
      refine ⟨by simp [g1], fun i x hi => ?_⟩
      cases i with
      | zero => simp at hi; subst hi; exact ⟨y, rfl, h1⟩
      | succ i => obtain ⟨y', h3, h4⟩ := g2 i x (by simpa using hi); exact ⟨y', by simpa using h3, h4⟩
    · cases h
theorem Rs_of_get : ∀ {l : List AV} {vs : List Value}, vs.length = l.length → (∀ (i : Nat) (x : AV) (v : Value), l[i]? = some x → vs[i]? = some v → AV.R lim bs w x v) → AV.Rs lim bs w l vs
  | [], vs, h, _ => by rw [AV.Rs]; exact List.eq_nil_of_length_eq_zero h
  | x :: l, [], h, _ => by simp at h
  | x :: l, v :: vs, h, hf => by
    rw [AV.Rs]
    exact ⟨v, vs, rfl, hf 0 x v rfl rfl, Rs_of_get (by simpa using h) (fun i y u hy hu => hf (i + 1) y u (by simpa using hy) (by simpa using hu))⟩
theorem flats_of_get : ∀ {l : List AV}, (∀ (i : Nat) (x : AV), l[i]? = some x → x.flat = true) → AV.flats l = true
  | [], _ => rfl
  | x :: l, h => by
    rw [AV.flats, h 0 x rfl, flats_of_get (fun i y hy => h (i + 1) y (by simpa using hy))]; rfl
/-- The blocks of the boxes from a number on, whole. -/
def limF (lim : Nat → Nat) (bs : List Nat) (n : Nat) (w : World) (b : Nat) : Nat :=
  if b ∈ bs.drop n then (match w.heap[b]? with | some (.cells cur _ _) => cur.size | _ => 0) else lim b
theorem limF_le (H : Hold lim bs w bx S m) (n b : Nat) : lim b ≤ limF lim bs n w b := by
  unfold limF
  split
  · rename_i h
    rw [H.free b (List.mem_of_mem_drop h)]; exact Nat.zero_le _
  · exact Nat.le_refl _
theorem limF_ext (H : Hold lim bs w bx S m) (n : Nat) : AV.Ext lim bs w (limF lim bs n w) bs w :=
  ⟨fun _ _ h => h, Nat.le_refl _, fun b _ => limF_le H n b, fun _ _ _ _ => rfl, fun b cur e p h => ⟨cur, h, rfl⟩⟩
theorem frz_sound (H : Hold lim bs w bx S m) {n : Nat} : ∀ (k : Nat) {v v' : AV} {u : Value}, v.flat = true → frzV bx n k v = some v' → AV.R lim bs w v u → AV.R (limF lim bs n w) (bs.take n) w v' u ∧ v'.flat = true ∧ v'.pf = true
  | 0, v, v', u, _, h, _ => by unfold frzV at h; cases h
  | k + 1, v, v', u, hf, h, hR => by
    have ih := fun {v v' : AV} {u : Value} (a : v.flat = true) (b : frzV bx n k v = some v') (c : AV.R lim bs w v u) => frz_sound H k a b c
    have pf_of : ∀ {l : List AV}, (∀ (i : Nat) (x : AV), l[i]? = some x → x.pf = true) → AV.pfs l = true := by
      intro l
      induction l with
      | nil => intro _; rfl
      | cons x l ihl =>
        intro h
        rw [AV.pfs, h 0 x rfl, ihl (fun i y hy => h (i + 1) y (by simpa using hy))]; rfl
    unfold frzV at h
    split at h
    · rename_i hp
      cases h
      exact ⟨AV.R.free hp (AV.R.ext (limF_ext H n) hf hR), hf, hp⟩
    · rename_i hnp
      -- what is done to each of some
      have many : ∀ {l l' : List AV} {us : List Value}, AV.flats l = true → mapO (frzV bx n k) l = some l' → AV.Rs lim bs w l us → AV.Rs (limF lim bs n w) (bs.take n) w l' us ∧ AV.flats l' = true ∧ AV.pfs l' = true := by
        intro l l' us hfl hm hrs
        obtain ⟨g1, g2⟩ := mapO_get hm
        have hl := AV.Rs_len hrs
        have hback : ∀ (i : Nat) (x : AV), l'[i]? = some x → ∃ y u, l[i]? = some y ∧ frzV bx n k y = some x ∧ us[i]? = some u ∧ AV.R lim bs w y u ∧ y.flat = true := by
          intro i x hx
          have hi : i < l.length := by rw [← g1]; exact (List.getElem?_eq_some_iff.1 hx).1
          obtain ⟨y', h3, h4⟩ := g2 i _ (List.getElem?_eq_getElem hi)
          rw [hx] at h3; cases h3
          obtain ⟨u', h5, h6⟩ := Rs_get hrs (List.getElem?_eq_getElem hi)
          exact ⟨l[i], u', List.getElem?_eq_getElem hi, h4, h5, h6, flats_get hfl (List.getElem?_eq_getElem hi)⟩
        refine ⟨Rs_of_get (by rw [hl, g1]) (fun i x v hx hv => ?_), flats_of_get (fun i x hx => ?_), pf_of (fun i x hx => ?_)⟩
        · obtain ⟨y, u, q1, q2, q3, q4, q5⟩ := hback i x hx
          rw [hv] at q3; cases q3
          exact (ih q5 q2 q4).1
        · obtain ⟨y, u, q1, q2, q3, q4, q5⟩ := hback i x hx
          exact (ih q5 q2 q4).2.1
        · obtain ⟨y, u, q1, q2, q3, q4, q5⟩ := hback i x hx
          exact (ih q5 q2 q4).2.2
      split at h
      · -- a box
        rename_i j e z mm
        split at h
        case h_2 => cases h
        rename_i c hc
        split at h
        case isFalse => cases h
        rename_i hcond
        obtain ⟨hnj, hlen⟩ := hcond
        cases hm : mapO (frzV bx n k) ((c.take (mm * z)).map AV.dem) with
        | none => rw [hm] at h; cases h
        | some l' =>
          rw [hm] at h; cases h
          rw [AV.R] at hR
          obtain ⟨b, cp, cur, q1, q2, q3, q4, q5, rfl⟩ := hR
          obtain ⟨C, tl, t, g1, g2, g3⟩ := H.box j b c q1 hc
          rw [q2] at g1; cases g1
          have hC := AV.Rs_len g2
          have htop : (c.take (mm * z)).all AV.top = true := by
            rw [List.all_eq_true] at g3 ⊢
            exact fun y hy => g3 y (List.mem_of_mem_take hy)
          obtain ⟨r1, r2, r3⟩ := many (flats_map_dem htop (Rs_take g2)) hm (Rs_map_dem (Rs_take (n := mm * z) g2))
          have hl' := AV.Rs_len r1
          have hbn : b ∈ bs.drop n := by
            have : (bs.drop n)[j - n]? = some b := by rw [List.getElem?_drop, show n + (j - n) = j by omega]; exact q1
            exact List.mem_of_getElem? this
          refine ⟨?_, r2, r3⟩
          rw [AV.R]
          refine ⟨_, cp, rfl, q4, .inr ⟨b, 0, rfl, lt_of_heap q2, ?_, Rm_of_vals r1 (fun i v hv => ?_)⟩⟩
          · unfold limF
            rw [if_pos hbn, q2]
            simp only [List.length_take] at hl' ⊢
            simp only [List.size_toArray, List.length_append]
            omega
          · obtain ⟨-, hv⟩ := take_get hv
            rw [Nat.zero_add]
            exact heap_cellP q2 hv
      · rename_i l
        cases hm : mapO (frzV bx n k) l with
        | none => rw [hm] at h; cases h
        | some l' =>
          rw [hm] at h; cases h
          rw [AV.R] at hR ⊢
          obtain ⟨vs, rfl, h2⟩ := hR
          obtain ⟨r1, r2, r3⟩ := many (by rw [AV.flat] at hf; exact hf) hm h2
          exact ⟨⟨vs, rfl, r1⟩, r2, r3⟩
      · rename_i l
        cases hm : mapO (frzV bx n k) l with
        | none => rw [hm] at h; cases h
        | some l' =>
          rw [hm] at h; cases h
          rw [AV.R] at hR ⊢
          obtain ⟨vs, rfl, h2⟩ := hR
          obtain ⟨r1, r2, r3⟩ := many (by rw [AV.flat] at hf; exact hf) hm h2
          exact ⟨⟨vs, rfl, r1⟩, r2, r3⟩
      · rename_i mm l
        cases hm : mapO (frzV bx n k) l with
        | none => rw [hm] at h; cases h
        | some l' =>
          rw [hm] at h; cases h
          rw [AV.R] at hR ⊢
          obtain ⟨ad, c, rfl, h1, h2⟩ := hR
          rw [AV.flat] at hf
          rcases h2 with rfl | ⟨b, o', rfl, f1, f2, f3⟩
          · have : l' = [] := by rw [mapO] at hm; exact (Option.some.inj hm).symm
            subst this
            exact ⟨⟨ad, c, rfl, h1, .inl rfl⟩, rfl, rfl⟩
          · obtain ⟨us, u1, u2, u3⟩ := Rm_vals f3
            obtain ⟨r1, r2, r3⟩ := many hf hm u2
            have hl' := AV.Rs_len r1
            exact ⟨⟨_, c, rfl, h1, .inr ⟨b, o', rfl, f1, by have := limF_le H n b; omega, Rm_of_vals r1 u3⟩⟩, r2, r3⟩
      · cases h
/-- What is handed back. -/
theorem end_sound (HT : TOK P T) (H : Hold lim bs w σ.bx (Sl σ.tm a) m) {n : Nat} {frz : Bool} {fn : Func} {r : AV} (hn : n ≤ σ.bx.length) (h : aEnd T frz σ fn.results.toList n = some (r, bx')) : ∃ u lim' bs', (results fn a.tmps).run P w = .ok u w ∧ Hold lim' bs' w bx' (rS r u) m ∧ Fr m lim w lim' w ∧ n ≤ bx'.length ∧ ∀ i, i < n → bs'[i]? = bs[i]? := by
  unfold aEnd at h
  split at h
  · cases h
  rename_i vs hvs
  obtain ⟨u, hu, H0⟩ := rets_sound HT H hvs
  have hrow : ∀ g, Own w bs σ.bx (rS (aRet vs) u) (.t 0) g → g ∉ bs := fun g hg => (H0.own _ _ hg).2
  split at h
  · -- frozen
    split at h
    case h_2 => cases h
    rename_i v hv
    split at h
    case isFalse => cases h
    rename_i hc
    have hh := Option.some.inj h
    have hr1 : v = r := congrArg Prod.fst hh
    have hr2 : σ.bx.take n = bx' := congrArg Prod.snd hh
    clear hh h
    subst hr1 hr2
    obtain ⟨c1, c2⟩ := hc
    have hlimn : ∀ b, b ∉ bs.drop n → limF lim bs n w b = lim b := fun b hb => by unfold limF; rw [if_neg hb]
    have htd : ∀ b, b ∈ bs.take n → b ∉ bs.drop n := by
      intro b h1 h2
      obtain ⟨i, hi⟩ := List.getElem?_of_mem h1
      obtain ⟨j, hj⟩ := List.getElem?_of_mem h2
      obtain ⟨hi1, hi⟩ := take_get hi
      rw [List.getElem?_drop] at hj
      have := nodup_inj H0.nod hi hj
      omega
    have hnd : ∀ b, b ∉ bs → b ∉ bs.drop n := fun b h1 h2 => h1 (List.mem_of_mem_drop h2)
    have hsub : ∀ b ∈ bs.take n, b ∈ bs := fun b h => List.mem_of_mem_take h
    have hext := limF_ext H0 n
    have hfr : Fr m lim w (limF lim bs n w) w := by
      refine ⟨Below.refl _ _, fun b hb hm => ⟨rfl, ?_⟩, fun b _ => limF_le H0 n b, fun _ _ _ _ => rfl, fun b cur e p h => ⟨cur, h, rfl⟩⟩
      refine hlimn b (fun hd => hm (H0.mb b (List.mem_of_mem_drop hd)))
    have hval : AV.R (limF lim bs n w) (bs.take n) w v u ∧ v.top = true ∧ (v.isRow = true → v = aRet vs) := by
      have hs := H0.slot 0
      have ht := H0.slotT 0
      have hs' : AV.R lim bs w (aRet vs) u := hs
      have ht' : (aRet vs).top = true := ht
      cases hr : (aRet vs).isRow with
      | true =>
        have hve : v = aRet vs ∧ (aRet vs).pf = true := by
          unfold frzV at hv
          split at hv
          · rename_i hp; cases hv; exact ⟨rfl, hp⟩
          · cases hh : aRet vs <;> rw [hh] at hr <;> first | (cases hr; done) | (rw [hh] at hv; cases hv; done)
        rw [hve.1]
        refine ⟨AV.R.free hve.2 (AV.R.keep hext ht' (fun g h1 h2 => ⟨rfl, hlimn g (hnd g ?_)⟩) hs'), ht', fun _ => rfl⟩
        exact hrow g ⟨h1, h2⟩
      | false =>
        have hfl : (aRet vs).flat = true := by
          rw [AV.top, hr, Bool.false_or] at ht'; exact ht'
        obtain ⟨r1, r2, r3⟩ := frz_sound H0 1000 hfl hv hs'
        refine ⟨r1, by rw [AV.top, r2]; simp, fun hh => ?_⟩
        rw [flat_row r2] at hh; cases hh
    obtain ⟨v1, v2, v3⟩ := hval
    have ho : ∀ p g, Own w (bs.take n) (σ.bx.take n) (rS v u) p g → Own w bs σ.bx (rS (aRet vs) u) p g := by
      intro p g hp
      cases p with
      | t k =>
        obtain ⟨p1, p2⟩ := hp
        by_cases hk : k = 0
        · subst hk
          have p1' : v.isRow = true := p1
          have := v3 p1'
          exact ⟨by rw [this] at p1'; exact p1', p2⟩
        · have : (rS v u k).1 = .bad := by unfold rS; rw [if_neg hk]
          rw [this] at p1; cases p1
      | b i j =>
        obtain ⟨b, x, y, v, q1, q2, q3⟩ := hp
        exact ⟨b, x, y, v, (take_get q1).2, (take_get q2).2, q3⟩
    refine ⟨u, limF lim bs n w, bs.take n, hu, ⟨by rw [List.length_take, List.length_take, H0.len], H0.nod.sublist (List.take_sublist _ _), fun b h => ?_, fun b h => H0.mb b (hsub b h), fun i b x hi hx => ?_, fun k => ?_, fun k => ?_, fun b hb => ?_, fun p g hp => ⟨(H0.own p g (ho p g hp)).1, fun h => (H0.own p g (ho p g hp)).2 (hsub g h)⟩, fun p q g hp hq => H0.dist p q g (ho p g hp) (ho q g hq)⟩, hfr, by rw [List.length_take]; omega, fun i hi => by rw [List.getElem?_take, if_pos hi]⟩
    · rw [hlimn b (htd b h)]; exact H0.free b (hsub b h)
    · obtain ⟨c, tl, t, g1, g2, g3⟩ := H0.box i b x (take_get hi).2 (take_get hx).2
      rw [List.all_eq_true] at c2
      refine ⟨c, tl, t, g1, AV.Rs.free (c2 x (List.mem_of_getElem? hx)) (Rs_keep hext g3 (fun j y v g hy hv hr hg => ⟨rfl, hlimn g (hnd g ?_)⟩) g2), g3⟩
      exact (H0.own (.b i j) g ⟨b, x, y, v, (take_get hi).2, (take_get hx).2, hy, hr, heap_cellP g1 hv, hg⟩).2
    · unfold rS
      split
      · exact v1
      · exact R_bad _
    · unfold rS
      split
      · exact v2
      · rfl
    · rw [hlimn b (fun hd => ?_)]
      · exact H0.top b hb
      · have := bs_lt H0 (List.mem_of_mem_drop hd); omega
  · split at h
    case h_2 => cases h
    rename_i ids bx2 hp
    cases h
    obtain ⟨h1, h2, ⟨cs, h3, rfl, h4⟩, h5⟩ := pick_inv hp
    have hS : ∀ k, ∀ i ∈ (rS (aRet vs) u k).1.ids, i ∈ ids := by
      intro k i hi
      unfold rS at hi
      split at hi
      · exact h5 i hi
      · simp [AV.ids] at hi
    obtain ⟨HP, hmg, -⟩ := H0.pick h1 h3 h4 hS
    have hfun : (fun k => ((rS (aRet vs) u k).1.ren ids.idxOf, (rS (aRet vs) u k).2)) = rS ((aRet vs).ren ids.idxOf) u := by
      funext k
      unfold rS
      split <;> rfl
    rw [hfun] at HP
    refine ⟨u, lim, _, hu, HP, Fr.refl, ?_, fun i hi => ?_⟩
    · rw [List.length_map, (conts_len h3).1]
      rcases Nat.eq_zero_or_pos n with e | e
      · omega
      · have := (List.getElem?_eq_some_iff.1 (h2 (n - 1) (by omega))).1
        omega
    · have hb : i < bs.length := by rw [H.len]; omega
      rw [hmg i i _ (h2 i hi) (List.getElem?_eq_getElem hb), List.getElem?_eq_getElem hb]
theorem get_params : ∀ (l : List AV) (tm : Tm) (k n : Nat), get (params tm k l) n = if k ≤ n ∧ n < k + l.length then l.getD (n - k) .bad else get tm n
  | [], tm, k, n => by rw [params, if_neg (by simp)]
  | v :: l, tm, k, n => by
    rw [params, get_params l, get_cons]
    by_cases h : n = k
    · subst h; rw [if_neg (by omega), if_pos rfl, if_pos ⟨Nat.le_refl _, by simp⟩, Nat.sub_self]; rfl
    · by_cases h2 : k ≤ n
      · have e : n - k = n - (k + 1) + 1 := by omega
        simp only [List.length_cons, e, List.getD_cons_succ]
        by_cases h3 : n < k + 1 + l.length
        · rw [if_pos ⟨by omega, h3⟩, if_pos ⟨h2, by omega⟩]
        · rw [if_neg (by omega), if_neg h, if_neg (by omega)]
      · rw [if_neg (by omega), if_neg h, if_neg (by simp; omega)]
def goodF (fn : Func) : Bool :=
  !(fn.name == "runtime.NumGoroutine") && match fn.body with
  | some c => good fn.ntmps c
  | none => false
/-- A call of a function by its own code. -/
theorem fun_sound (HT : TOK P T) (HC : CallsOK P cal) {an : Ann} {n f : Nat} {fn : Func} (hf : P.funcs[f]? = some fn) (hg : goodF fn = true) {args : List AV} {r : AV} (h : aFun cal T an n fn args bx = some (r, bx')) : CallOK P f args bx r bx' := by
  unfold goodF at hg
  rw [Bool.and_eq_true] at hg
  obtain ⟨hg1, hg2⟩ := hg
  unfold aFun at h
  cases hb : fn.body with
  | none => rw [hb] at h; cases h
  | some c =>
    rw [hb] at h hg2
    simp only [] at h hg2
    have hend : ∃ e σ, aCode cal T an bx.length n c ⟨params [] 0 args, bx⟩ = some (e, σ) ∧ (e = .normal ∨ e = .ret) ∧ aEnd T an.frz σ fn.results.toList bx.length = some (r, bx') := by
      split at h
      · rename_i σ hσ; exact ⟨_, σ, hσ, .inl rfl, h⟩
      · rename_i σ hσ; exact ⟨_, σ, hσ, .inr rfl, h⟩
      · cases h
    obtain ⟨e, σ, h1, h2, h3⟩ := hend
    have hlen : bx.length ≤ bx'.length := by
      unfold aEnd at h3
      split at h3
      · cases h3
      · split at h3
        · split at h3
          · split at h3
            · rename_i hc
              cases h3
              rw [List.length_take]; omega
            · cases h3
          · cases h3
        · split at h3
          · rename_i ids bx2 hp
            cases h3
            obtain ⟨-, g2, ⟨cs, g3, rfl, -⟩, -⟩ := pick_inv hp
            rw [List.length_map, (conts_len g3).1]
            rcases Nat.eq_zero_or_pos bx.length with e | e
            · omega
            · have := (List.getElem?_eq_some_iff.1 (g2 (bx.length - 1) (by omega))).1
              omega
          · cases h3
    refine ⟨⟨fn, hf, by simpa using hg1, by rw [hb]; rfl⟩, hlen, fun lim bs w vs m hl hm H => ?_⟩
    refine calls_of_wp hf hb ?_
    have hsz : fn.ntmps ≤ (vs.toArray ++ Array.replicate (fn.ntmps - vs.toArray.size) undef).size := by simp; omega
    have hS : Sl (params [] 0 args) { tmps := vs.toArray ++ Array.replicate (fn.ntmps - vs.toArray.size) undef, defers := [] } = aS args vs := by
      funext k
      unfold Sl aS
      rw [get_params]
      congr 1
      · by_cases hk : k < args.length
        · rw [if_pos ⟨by omega, by omega⟩]; simp
        · rw [if_neg (by omega)]
          simp [get, List.getD_eq_getElem?_getD, List.getElem?_eq_none (show args.length ≤ k by omega)]
      · simp only [Array.getD_eq_getD_getElem?, List.getD_eq_getElem?_getD]
        by_cases hk : k < vs.length
        · rw [Array.getElem?_append_left (by simpa using hk)]; simp
        · rw [Array.getElem?_append_right (by simpa using hk), List.getElem?_eq_none (by omega), Array.getElem?_replicate]
          split <;> rfl
    have hbs : bs.length = bx.length := H.len
    refine code_sound HT HC (base := bx.length) hg2 hsz (Nat.le_refl _) (σ := ⟨params [] 0 args, bx⟩) (m := m) (by rw [hS]; exact H) hm h1 fun lim' bs' w' a' hgo => ?_
    have hlen2 : bx.length ≤ σ.bx.length := by
      have := len_of_pre (by rw [hbs]; exact Nat.le_refl _) hgo.pre
      rw [hgo.hold.len] at this; exact this
    obtain ⟨u, lim2, bs2, u1, u2, u3, u4, u5⟩ := end_sound (fn := fn) HT hgo.hold hlen2 h3
    have hpost : a'.defers = [] ∧ ∃ v, (results fn a'.tmps).run P w' = .ok v w' ∧ (∃ v' lim' bs', Ending.returned v = .returned v' ∧ Hold lim' bs' w' bx' (rS r v') m ∧ Fr m lim w lim' w' ∧ ∀ i, i < bx.length → bs'[i]? = bs[i]?) := by
      refine ⟨hgo.df, u, u1, u, lim2, bs2, rfl, u2, hgo.fr.trans u3, fun i hi => ?_⟩
      have hib : i < bs.length := by omega
      rw [u5 i hi, hgo.pre i _ hi (List.getElem?_eq_getElem hib), List.getElem?_eq_getElem hib]
    rcases h2 with rfl | rfl
    · exact hpost
    · exact hpost
/-- What a run leans on. -/
structure KOK (P : Program) (K : Know) : Prop where
  T : TOK P K.T
  fns : ∀ f fn, K.fns f = some fn → P.funcs[f]? = some fn ∧ goodF fn = true
  prim : ∀ f g args v, K.prim f = some g → g args = some v → v.pf = true → v.flat = true → CallOK P f args [] v []
  semi : ∀ f g cal args bx r bx', K.semi f = some g → CallsOK P cal → g cal args bx = some (r, bx') → CallOK P f args bx r bx'
/-- Calls: what the run tells is so. -/
theorem call_sound {K : Know} (HK : KOK P K) : ∀ n, CallsOK P (aCall K n)
  | 0, f, args, bx, r, bx', h => by rw [aCall] at h; cases h
  | n + 1, f, args, bx, r, bx', h => by
    rw [aCall] at h
    split at h
    · rename_i g hg
      split at h
      · cases h
      · rename_i v hv
        split at h
        · rename_i hc
          cases h
          have : bx = [] := by simpa using hc.2.2
          subst this
          exact HK.prim f g args _ hg hv hc.1 hc.2.1
        · cases h
    · split at h
      · rename_i g hg
        exact HK.semi f g _ args bx r bx' hg (call_sound HK n) h
      · split at h
        · rename_i fn hfn
          obtain ⟨h1, h2⟩ := HK.fns f fn hfn
          exact fun_sound HK.T (call_sound HK n) h1 h2 h
        · cases h
end Ab
end Go.Proofs.YtlmjabnkjmfcmaaGreat
/- A run on abstract values: this program's types, functions that have contracts of their own. -/
namespace Go.Proofs.YtlmjabnkjmfcmaaGreat
open Go Go.RowKit Go.PlainAid
set_option linter.unusedVariables false
namespace Ab
open Bk (Cm)
def tyL : List (Nat × TD) :=
  [(3, ⟨1, 8, false, [], none, [AV.int .i64 0]⟩),
   (4, ⟨1, 1, false, [], none, [AV.bool false]⟩),
   (5, ⟨1, 1, false, [], none, [AV.int .u8 0]⟩),
   (9, ⟨1, 16, false, [], none, [AV.str ByteArray.empty]⟩),
   (21, ⟨1, 4, false, [], none, [AV.int .i32 0]⟩),
   (28, ⟨1, 8, false, [], none, [AV.int .i64 0]⟩),
   (22, ⟨1, 24, false, [], some 3, [AV.nil]⟩),
   (24, ⟨1, 24, false, [], some 37, [AV.nil]⟩),
   (25, ⟨1, 24, false, [], some 56, [AV.nil]⟩),
   (32, ⟨1, 24, false, [], some 9, [AV.nil]⟩),
   (33, ⟨1, 24, false, [], some 35, [AV.nil]⟩),
   (152, ⟨1, 24, false, [], some 154, [AV.nil]⟩),
   (109, ⟨1, 24, false, [], some 25, [AV.nil]⟩),
   (27, ⟨2, 48, true, [(0, 1, false), (1, 1, false)], none, [AV.nil, AV.nil]⟩),
   (35, ⟨12, 176, true, [(0, 1, false), (1, 1, false), (2, 1, false), (3, 1, false), (4, 1, false), (5, 1, false), (6, 1, false), (7, 1, false), (8, 1, false), (9, 1, false), (10, 1, false), (11, 1, false)], none, [AV.int .i64 0, AV.int .i64 0, AV.int .i64 0, AV.int .i64 0, AV.str ByteArray.empty, AV.str ByteArray.empty, AV.str ByteArray.empty, AV.nil, AV.nil, AV.nil, AV.bool false, AV.str ByteArray.empty]⟩),
   (37, ⟨16, 256, true, [(0, 1, false), (1, 1, false), (2, 1, false), (3, 12, true), (15, 1, false)], none, [AV.nil, AV.nil, AV.bool false, AV.int .i64 0, AV.int .i64 0, AV.int .i64 0, AV.int .i64 0, AV.str ByteArray.empty, AV.str ByteArray.empty, AV.str ByteArray.empty, AV.nil, AV.nil, AV.nil, AV.bool false, AV.str ByteArray.empty, AV.nil]⟩),
   (56, ⟨2, 24, true, [(0, 1, false), (1, 1, false)], none, [AV.str ByteArray.empty, AV.int .i64 0]⟩),
   (80, ⟨2, 32, true, [(0, 1, false), (1, 1, false)], none, [AV.nil, AV.bool false]⟩),
   (72, ⟨2, 32, true, [(0, 1, false), (1, 1, false)], none, [AV.bool false, AV.nil]⟩),
   (83, ⟨5, 64, true, [(0, 1, false), (1, 1, false), (2, 1, false), (3, 1, false), (4, 1, false)], none, [AV.nil, AV.int .i64 0, AV.str ByteArray.empty, AV.int .i64 0, AV.int .i64 0]⟩),
   (102, ⟨4, 56, true, [(0, 1, false), (1, 1, false), (2, 1, false), (3, 1, false)], none, [AV.str ByteArray.empty, AV.int .i64 0, AV.nil, AV.int .i64 0]⟩),
   (106, ⟨7, 40, true, [(0, 1, false), (1, 1, false), (2, 1, false), (3, 1, false), (4, 1, false), (5, 1, false), (6, 1, false)], none, [AV.int .i64 0, AV.int .i64 0, AV.bool false, AV.bool false, AV.bool false, AV.int .i64 0, AV.bool false]⟩),
   (154, ⟨3, 32, true, [(0, 1, false), (1, 1, false), (2, 1, false)], none, [AV.str ByteArray.empty, AV.int .i64 0, AV.bool false]⟩),
   (161, ⟨5, 64, true, [(0, 1, false), (1, 1, false), (2, 1, false), (3, 1, false), (4, 1, false)], none, [AV.str ByteArray.empty, AV.int .i64 0, AV.int .i64 0, AV.nil, AV.int .i64 0]⟩),
   (170, ⟨3, 40, true, [(0, 1, false), (1, 1, false), (2, 1, false)], none, [AV.nil, AV.bool false, AV.int .i64 0]⟩),
   (180, ⟨16, 192, true, [(0, 12, true), (12, 1, false), (13, 1, false), (14, 1, false), (15, 1, false)], none, [AV.int .i64 0, AV.int .i64 0, AV.int .i64 0, AV.int .i64 0, AV.str ByteArray.empty, AV.str ByteArray.empty, AV.str ByteArray.empty, AV.nil, AV.nil, AV.nil, AV.bool false, AV.str ByteArray.empty, AV.bool false, AV.bool false, AV.bool false, AV.int .i64 0]⟩)]
def tyT : Tab := assoc tyL
def cmA : List Cm → List AV
  | [] => []
  | c :: l => .str c.t :: .int .i64 c.b :: cmA l
def pI (f : Int → AV) : List AV → Option AV
  | [.int .u8 c] => some (f c)
  | _ => none
def pSI (f : ByteArray → Int → Option AV) : List AV → Option AV
  | [.str s, .int .i64 a] => if s.size ≤ 900000 then f s a else none
  | _ => none
def pSII (f : ByteArray → Int → Int → Option AV) : List AV → Option AV
  | [.str s, .int .i64 a, .int .i64 b] => if s.size ≤ 900000 then f s a b else none
  | _ => none
def inT (s : ByteArray) (a : Int) (f : Nat → AV) : Option AV := if 0 ≤ a ∧ a ≤ s.size then some (f a.toNat) else none
def btwA : Option (List Cm × Bool × Nat) → AV
  | some (l, same, p) => .tup [.sl l.length (cmA l), .bool same, .int .i64 p, .int .i64 0]
  | none => .tup [.nil, .bool false, .unk .i64, .nz .i64]
/-- Functions with contracts. -/
def primL : List (Nat × (List AV → Option AV)) :=
  [(29, (pSI fun s a => inT s a fun q => btwA (Bk.btwS s q 0 false))),
   (30, (pSI fun s a => some (.int .i64 (Bk.kindN s (Bk.heldN s a))))),
   (31, (pSI fun s a => some (.int .i64 ((Bk.heldN s a : Nat) - (Bk.fromN s (Bk.heldN s a) : Nat))))),
   (32, (pSI fun s a => some (.tup [.int .i64 (Bk.fromN s (Bk.heldN s a) : Nat), .int .i64 (Bk.toN s (Bk.heldN s a) : Nat)]))),
   (33, (pSII fun s a b => if 0 ≤ a ∧ 0 ≤ b ∧ b ≤ s.size then some (.int .i64 (Bk.firstN s a.toNat b.toNat : Nat)) else none)),
   (34, fun xs => match xs with
    | [.str s] => if s.size ≤ 900000 then some (.str (Bk.cutS s)) else none
    | _ => none),
   (61, (pSI fun s a => some (.bool (Bk.endsB s a)))),
   (63, (pI fun c => .bool (Bk.whiteB c))),
   (88, (pSI fun s a => some (.int .i64 (Bk.inN s (Bk.heldN s a) : Nat)))),
   (90, (pSI fun s a => some (.int .i64 (Bk.aboveN s (Bk.heldN s a) : Nat)))),
   (93, (pI fun c => .bool (Bk.flowB c))),
   (115, fun xs => match xs with
    | [.str s, .int .i64 a, .bool fl] => if s.size ≤ 900000 ∧ a ≤ 9223372036854775807 then some (.tup [.str (Bk.readI s a fl).1, .str (Bk.readI s a fl).2.1, .int .i64 (Bk.readI s a fl).2.2.1, .int .i64 (Bk.readI s a fl).2.2.2]) else none
    | _ => none),
   (126, (pSI fun s a => if a ≤ 9223372036854775807 then some (.tup [.str (Bk.aliasI s a).1, .int .i64 (Bk.aliasI s a).2.1, .int .i64 (Bk.aliasI s a).2.2]) else none)),
   (129, fun xs => match xs with
    | [.str s, .int .i64 a, .bool fl] => if s.size ≤ 900000 ∧ 0 ≤ a then some (.bool (Bk.beginsB s a.toNat fl)) else none
    | _ => none),
   (130, fun xs => match xs with
    | [.str s, .int .i64 a, .bool fl] => if s.size ≤ 900000 ∧ 0 ≤ a then some (.int .i64 (Bk.partN s a.toNat fl : Nat)) else none
    | _ => none),
   (136, fun xs => match xs with
    | [.str s, .int .i64 a, .int .i64 n, .bool fl] => if s.size ≤ 900000 then inT s a fun k => .tup [.str (Bk.readS s k n fl).1, .int .i64 ((Bk.readS s k n fl).2.1 : Nat), .bool (Bk.readS s k n fl).2.2.1, .int .i64 (Bk.readS s k n fl).2.2.2] else none
    | _ => none),
   (146, fun xs => match xs with
    | [.int .i64 n] => if n ≤ 100000000 then some (.str (Bk.manyS 10 n.toNat)) else none
    | _ => none),
   (159, (pSII fun s a n => inT s a fun q => btwA (Bk.btwS s q n true)))]
def prims : Nat → Option (List AV → Option AV) := assoc primL
end Ab
end Go.Proofs.YtlmjabnkjmfcmaaGreat
/- A run on abstract values: what temporaries are wanted behind each region (printed by tools/live.py). -/
namespace Go.Proofs.YtlmjabnkjmfcmaaGreat
open Go
namespace Ab
def liveL : List (Nat × List (List Nat)) :=
  [(3, [[0, 1, 2], [0, 1, 2, 19], [6], [0, 1, 2, 7], [0, 1, 2, 7, 22], [0, 1, 2, 7], [1, 2, 7, 8], [1, 2, 7, 8, 11], [1, 2, 7, 8, 11, 35], [1, 2, 7, 8, 11], [1, 2, 7, 8, 11, 53], [6], [0, 1, 2, 7], [6]]),
   (4, [[0, 1, 2, 3], [0, 1, 2, 3, 18], [8], [1, 2, 3, 9], [1, 2, 3, 9, 10], [1, 2, 3, 9, 10, 23], [1, 2, 3, 9, 10], [1, 2, 3, 9, 10, 11], [1, 2, 3, 9, 10, 11, 14], [1, 2, 3, 9, 10, 11, 14, 36], [1, 2, 3, 9, 10, 11, 14], [1, 2, 3, 9, 10, 11, 14, 15], [1, 2, 3, 9, 10, 11, 14, 51], [8], [1, 2, 3, 9, 10], [8]]),
   (5, [[0, 1, 2, 3], [0, 1, 2, 3, 18], [8], [1, 2, 3, 9], [1, 2, 3, 9, 10], [1, 2, 3, 9, 10, 23], [1, 2, 3, 9, 10], [1, 2, 3, 9, 10, 11], [1, 2, 3, 9, 10, 11, 14], [1, 2, 3, 9, 10, 11, 14, 36], [1, 2, 3, 9, 10, 11, 14], [1, 2, 3, 9, 10, 11, 14, 15], [1, 2, 3, 9, 10, 11, 14, 91], [8], [1, 2, 3, 9, 10], [8]]),
   (6, [[0, 1, 2], [0, 1, 2, 19], [6], [0, 1, 2, 7], [0, 1, 2, 7, 22], [0, 1, 2, 7], [1, 2, 7, 8], [1, 2, 7, 8, 11], [1, 2, 7, 8, 11, 35], [1, 2, 7, 8, 11], [1, 2, 7, 8, 11, 48], [6], [0, 1, 2, 7], [6]]),
   (7, [[0, 1, 2], [0, 1, 2, 20], [6], [0, 1, 2, 7], [0, 1, 2, 7, 23], [0, 1, 2, 7], [1, 2, 7, 8], [1, 2, 7, 8, 11], [1, 2, 7, 8, 11, 36], [1, 2, 7, 8, 11], [1, 2, 7, 8, 11, 12], [1, 2, 7, 8, 11, 67], [6], [0, 1, 2, 7], [6]]),
   (8, [[0, 1], [0, 1, 5], [0, 1, 5, 6], [0, 1, 5, 6, 7], [1, 5, 6, 7, 8], [1, 6, 7, 8, 9, 11], [1, 6, 7, 8, 9, 36], [4], [1, 6, 7, 8, 12], [1, 7, 8, 12, 13], [7, 8, 12, 13, 47], [12, 13], [12, 13, 14], [13, 14, 58], [13, 14], [4]]),
   (9, [[0, 1, 2], [0, 1, 2, 19], [6], [0, 1, 2, 7], [0, 1, 2, 7, 22], [0, 1, 2, 7], [1, 2, 7, 8], [1, 2, 7, 8, 11], [1, 2, 7, 8, 11, 53], [6], [1, 2, 7, 64], [6], [0, 1, 2, 7], [6]]),
   (10, [[], [1], [1, 4], [1, 4, 28], [0], [7, 8], [0]]),
   (11, [[0, 2], [0, 2, 5], [0, 2, 5, 6], [0, 2, 5, 6, 7], [0, 2, 5, 6, 7, 8], [0, 2, 5, 6, 7, 8, 9, 11, 12], [0, 2, 5, 6, 7, 8, 9, 11, 12, 32], [2, 3, 4], [0, 2, 5, 6, 7, 8, 9, 11, 63], [2, 3, 4], [0, 2, 5, 6, 7, 8, 9, 11, 69], [2, 5], [2, 3, 4], [0, 2, 5, 6, 7, 8, 9, 11, 13, 14], [0, 2, 5, 6, 7, 8, 9, 11, 13, 14, 15], [0, 2, 5, 6, 7, 8, 9, 11, 13, 14, 15, 84], [0, 2, 5, 6, 7, 9, 13, 14, 16], [0, 2, 5, 6, 7, 9, 14, 16, 111], [2, 3, 4], [0, 2, 5, 6, 7, 14, 16], [0, 2, 5, 6, 7, 14, 16, 119], [0, 2, 5, 6, 7, 14], [0, 2, 5, 6, 7, 8], [0, 2, 5, 6, 7, 8, 9, 11, 13, 14, 15, 131], [0, 2, 5, 6, 7, 9, 11, 14, 17, 18, 19, 20], [0, 2, 5, 6, 7, 9, 11, 14, 17, 18, 19, 157], [2, 3, 4], [0, 2, 5, 6, 7, 14, 17, 18, 19], [0, 2, 5, 6, 7, 14, 17, 18, 163], [0, 2, 5, 6, 7, 14, 17], [0, 2, 5, 6, 7, 14], [0, 2, 5, 6, 7, 8], [0, 2, 5, 6, 8, 9, 11, 13, 15, 21], [0, 2, 5, 6, 8, 9, 11, 21, 182], [0, 2, 5, 6, 9, 11, 21], [0, 2, 5, 11, 21], [0, 2, 5, 8, 12, 21], [0, 2, 5, 8, 21], [0, 2, 5, 8, 12, 21], [0, 2, 5, 8, 12, 21, 212], [2, 3, 4], [0, 2, 5, 8], [0, 2, 5, 6, 7, 8]]),
   (12, [[2, 3], [4]]),
   (13, [[1, 2, 4], [2, 4, 5], [2, 4, 5, 6], [2, 4, 5, 6], [4, 6], [4]]),
   (14, [[1, 2, 4], [2, 4, 5], [2, 4, 5], [2, 4], [4]]),
   (15, [[0], [3], [3, 4], [3, 4, 5], [3, 4, 5, 14], [3, 4, 5], [3, 4, 5], [3, 4, 5, 29], [3, 4, 5], [3, 4, 5], [3, 4, 5, 37], [3, 4, 5], [3, 4, 5], [3, 4, 5, 48], [3, 4, 5], [3, 4, 5, 61], [3, 4, 5], [3, 4, 5], [3, 4, 5], [2]]),
   (16, [[0, 1, 2], [1, 2, 7], [1, 2, 7, 12], [7], [6]]),
   (17, [[0, 1], [0, 1, 10], [4], [0, 1, 5], [0, 1, 5, 14], [0, 1, 5], [0, 1, 5, 25], [4], [4]]),
   (18, [[0, 1], [0, 1, 10], [4], [0, 1, 5], [0, 1, 5, 14], [0, 1, 5], [0, 1, 5, 25], [4], [4]]),
   (19, [[2, 3, 4], [2, 3, 4, 7], [2, 3, 4, 7, 21], [2, 3, 4, 7], [2, 3, 4, 76], [6], [2, 3, 4, 8], [2, 3, 4, 8, 81], [2, 3, 4, 8], [2, 3, 4, 8, 106], [6], [6]]),
   (20, [[1, 2], [1, 2, 45], [4], [1, 2, 5], [1, 2, 5, 50], [1, 2, 5], [1, 2, 5, 6], [1, 2, 5, 6, 70], [4], [1, 2, 5, 6, 71], [1, 2, 5, 82], [4], [1, 2, 5, 6, 83], [4], [1, 2, 5, 108], [4], [4]]),
   (21, [[1], [1, 3], [1, 3, 4], [1, 3, 4, 13], [1, 3, 4], [1, 3, 4], [1, 3], [1, 3, 29], [3], [2]]),
   (22, [[0, 1], [4]]),
   (23, [[1, 2], [1, 2, 5], [1, 2, 5, 6], [1, 2, 5, 6, 13], [1, 2, 5, 6], [1, 2, 5, 6], [1, 2, 5, 7], [1, 2, 5, 7, 24], [1, 2, 5, 7], [1, 2, 5, 7], [1, 2, 5, 8], [1, 2, 5, 8, 43], [1, 2, 5, 8], [1, 2, 5, 8], [1, 5, 51], [5], [4]]),
   (24, [[1, 2, 4], [1, 2, 4, 5], [1, 2, 4, 5, 6], [1, 2, 4, 5, 6, 11], [1, 2, 4, 5, 6], [1, 2, 4, 5, 6], [4]]),
   (25, [[1], [1, 3], [3], [2]]),
   (26, [[0], [0, 3], [0, 3, 4], [0, 3, 4, 8], [0, 3, 4], [0, 3, 4, 24], [0, 3, 4], [2]]),
   (27, [[1], [1, 3], [3], [2]]),
   (28, [[1], [6, 7, 8], [6, 7, 8, 9], [4, 6, 7, 8], [6, 7, 8, 14], [2], [6, 7, 8], [2]]),
   (35, [[0], [0, 19], [2, 3, 4, 5], [0, 6, 7, 8], [0, 6, 7, 8, 9], [0, 6, 7, 8, 9, 24], [0, 6, 7, 8, 9], [0, 6, 7, 8, 9, 37], [6, 7, 8], [6, 7, 10], [6, 7, 10, 56], [2, 3, 4, 5], [6, 7, 10, 59], [6, 7, 10, 59, 60], [6, 7, 10, 71], [2, 3, 4, 5], [6, 7, 10, 72], [6, 7, 10, 90], [2, 3, 4, 5], [6, 7, 10, 11], [6, 7, 10, 11, 12], [6, 7, 10, 11, 12, 97], [6, 7, 10, 11, 12], [6, 7, 10, 11, 12], [2, 3, 4, 5]]),
   (36, [[0, 1], [0, 5], [0, 5, 6], [0, 5, 6, 18], [0, 5, 6], [0, 5, 6, 7], [0, 5, 6, 7, 37], [0, 5, 6, 7, 41], [4], [0, 5, 6, 64], [4], [4]]),
   (37, [[0, 1, 2, 6], [0, 2, 6, 10], [0, 6, 10, 11, 12], [6, 10, 11, 12, 38], [6, 10, 11, 12], [6, 10, 11, 46], [6, 7, 8, 9], [6, 7, 8, 9]]),
   (38, [[2, 3], [2, 3, 47], [4], [2, 3, 89], [4], [2, 3, 5], [2, 3, 5, 94], [2, 3, 5], [2, 3, 5, 108], [4], [4]]),
   (41, [[1, 2], [1, 2], [1, 2, 3], [1, 2, 3, 19, 20, 21], [1, 2, 3, 19, 20, 21, 22], [1, 2, 3, 5, 19, 20, 21], [1, 2, 3, 19, 20, 21], [1, 2, 3, 19, 20, 21], [1, 2], [2]]),
   (42, [[0, 1, 16], [0, 1, 22], [1], [], [0, 1, 4], [0, 1, 4], [0, 1, 52], [0, 1], [1], [1], [0, 1, 75], [0, 1], [1], [1, 101], [1], []]),
   (43, [[0], [0, 3], [0, 3, 9, 10, 11], [0, 3, 9, 10, 11, 12], [0, 3, 5, 9, 10, 11], [0, 3, 9, 10, 11], [0, 3, 9, 10, 11, 20], [0, 3, 9, 10, 11], [0, 3, 9, 10, 11], [0, 6], [6, 25, 26, 27], [6, 25, 26, 27, 28], [6, 8, 25, 26, 27], [6, 25, 26, 27], [6, 25, 26, 27], [2]]),
   (44, [[0, 3, 4], [0, 3, 4, 20], [4], [0, 3, 4, 25], [3, 4], [4], [0, 3, 4, 5], [0, 3, 4, 5, 43], [0, 3, 4, 5], [0, 3, 4, 5, 6], [0, 3, 4, 5, 6, 7], [0, 3, 4, 5, 6, 7, 51], [0, 3, 4, 5, 6, 7], [0, 3, 4, 5, 6, 7, 8], [0, 3, 4, 5, 6, 7, 8], [0, 3, 4, 5, 6, 7, 8, 65], [0, 3, 4, 5, 6, 7, 8], [0, 3, 4, 5, 6, 7, 8, 9], [0, 3, 4, 5, 6, 7, 8, 9, 10, 11], [0, 3, 4, 5, 6, 7, 8, 9, 11], [0, 3, 4, 5, 6, 7, 8, 11], [0, 3, 4, 5, 6, 7, 8, 11, 12], [0, 3, 4, 5, 6, 7, 8, 12], [0, 3, 4, 5, 6, 7, 8, 12], [0, 3, 4, 5, 6, 7, 8, 12, 99], [0, 3, 4, 5, 6, 7, 8, 12], [0, 3, 4, 5, 6, 7, 8, 12], [0, 3, 4, 5, 6, 7, 8], [0, 3, 4, 5, 6, 7, 8, 122], [0, 3, 4, 5, 6, 7, 8], [0, 3, 4, 5, 6, 7], [0, 3, 4, 5, 6, 7, 136], [0, 3, 4, 5, 6, 7], [0, 3, 4, 5], [0, 3, 4, 141], [3, 4], [3, 4], [0, 3, 4, 159], [3, 4], [4]]),
   (45, [[0, 1], [0, 1], [1], [4]]),
   (46, [[0, 1], [0, 1, 14], [4], [0, 1], [4]]),
   (47, [[0, 1, 4], [0, 1, 4, 8], [0, 1, 4], [0, 1, 4]]),
   (48, [[0, 1], [0, 1], [0, 1, 10], [0, 1, 10, 11], [], [0, 1, 10, 16], [], [0, 1, 10, 24], [], [0, 35], []]),
   (49, [[0], [0, 4], [2], [2]]),
   (50, [[0, 1, 2, 3], [0, 1, 2, 3, 8], [0, 1, 2, 3, 8, 28], [0, 1, 2, 3, 8], [0, 1], [0, 1], [0, 1], [], [0, 1, 2, 3, 8, 39], [], [0, 1, 2, 3, 8, 45], [0, 1], [0, 1], [], [0, 1, 2, 3, 8, 56], [0, 1], [0, 1], [0, 1], [], [0, 1, 2, 3, 8, 71], [0, 1], [0, 1], [0, 1], [0, 1], [], [0, 1, 3, 8, 94], [0, 1, 8, 9], [0, 1, 8, 9], [], [0, 1, 3, 8, 120], [0, 1, 3, 8], [0, 1, 3, 8], [0, 1, 3, 8], [0, 1, 3, 8, 10], [0, 1, 8, 10, 146], [0, 8, 10], [0, 8, 10], []]),
   (51, [[0], [2]]),
   (52, [[0, 1, 2, 6], [0, 1, 2, 6, 7], [0, 1, 2, 6, 7, 13], [0, 1, 2, 6, 7], [0, 1, 2, 6, 7, 17], [0, 1, 2, 6, 7], [0, 1, 2, 6, 7, 25], [0, 1, 2, 6, 7], [0, 1, 2, 6, 7], [0, 1, 2, 6, 7, 33], [0, 1, 2, 6, 7], [0, 1, 2, 6, 7, 33, 40], [0, 1, 2, 6, 7], [0, 1, 2, 6, 7], [0, 1, 2, 6, 7, 50], [0, 1, 2, 6, 7], [0, 1, 2, 6, 7], [0, 1, 2, 6, 7, 33, 59], [0, 1, 2, 6, 7], [0, 1, 2, 6, 7], [0, 1, 2, 6, 7], [0, 1, 2, 6, 7, 33, 69], [0, 1, 2, 6, 7], [0, 1, 2, 6, 7, 33, 74], [0, 1, 2, 6, 7], [0, 1, 2, 6, 7, 79], [0, 1, 2, 6, 7], [0, 1, 2, 6, 7], [0, 1, 2, 6, 7]]),
   (53, [[1], [1, 11], [2], [1, 3], [1, 3, 16], [1, 3], [1, 3, 35], [2], [2]]),
   (54, [[2, 3, 4], [2, 3, 4, 6], [2, 3, 4, 6, 11, 12, 13], [2, 3, 4, 6, 11, 12, 13, 14], [2, 3, 4, 6, 8, 11, 12, 13], [2, 3, 4, 6, 8, 11, 12, 13], [2, 3, 4, 6, 8, 11, 12, 13], [2, 3, 4, 6, 11, 12, 13], [2, 3, 4, 6, 11, 12, 13], []]),
   (55, [[]]),
   (57, [[]]),
   (58, [[]]),
   (59, [[1], [1, 6, 7, 8], [1, 6, 7, 8, 9], [1, 3, 4, 6, 7, 8], [1, 6, 7, 8, 28], [2], [1, 6, 7, 8], [2]]),
   (60, [[0, 1, 2, 3], [0, 1, 2, 3], [0, 1, 2, 3, 12], [0, 1, 2, 3, 12, 13], [0, 1, 2, 3, 12, 13, 15, 16, 17], [0, 1, 2, 3, 12, 13, 15, 16, 17, 40], [0, 1, 2, 3, 12, 13, 15, 16, 17, 41], [0, 1, 2, 3, 12, 13, 14, 15, 16], [0, 1, 2, 3, 12, 13, 14, 15, 16, 18], [0, 1, 2, 3, 12, 13, 14, 15, 16, 18, 56], [12, 15, 16, 62], [8, 9, 10, 11], [8, 9, 10, 11], [0, 1, 2, 3, 12, 13, 14, 15, 16, 18, 72], [0, 1, 2, 3, 12, 13, 14, 15, 16, 18, 19], [0, 1, 2, 3, 12, 13, 14, 15, 16, 18, 19, 78], [8, 9, 10, 11], [0, 1, 2, 3, 12, 13, 14, 15, 16, 96], [8, 9, 10, 11], [0, 1, 2, 3, 12, 13, 15, 16, 17], [8, 9, 10, 11], [0, 1, 2, 3, 12, 13, 15, 16, 17, 104], [0, 1, 2, 3, 12, 13, 15, 16, 17], [0, 1, 2, 3, 12, 13, 15, 16, 17, 111], [0, 1, 2, 3, 12, 13, 15, 16], [0, 1, 2, 3, 12, 13, 15, 16, 17], [0, 1, 2, 3, 12, 13, 15, 16, 17, 118], [0, 1, 2, 3, 12, 13, 14, 15, 16, 17], [0, 1, 2, 3, 12, 13, 14, 15, 16, 17, 130], [0, 1, 2, 3, 12, 13, 14, 16, 17, 20], [0, 1, 2, 3, 12, 13, 14, 15, 16, 17], [0, 1, 2, 3, 12, 13, 14, 15, 17], [0, 1, 2, 3, 12, 13, 15, 16, 17], [8, 9, 10, 11]]),
   (64, [[0], [0, 3], [0, 3, 4], [0, 3, 4, 5], [0, 3, 4, 5, 9], [0, 3, 4, 5], [0, 3, 4, 5, 22], [0, 3, 4, 5, 25], [0, 3, 5], [0, 3, 4, 5], [2]]),
   (65, [[0], [2]]),
   (66, [[0], [2]]),
   (67, [[0], [0, 15], [2], [0, 3], [0, 3, 19], [0, 3], [0, 3, 26], [2], [2]]),
   (68, [[0, 3, 4], [0, 3, 4], [0, 3, 4], [0, 3, 4, 6, 7, 8], [0, 3, 4, 6, 7, 25], [4, 5], [0, 3, 4, 6, 7, 31], [4, 5], [4, 6, 8, 9], [4, 8, 9], [4, 5]]),
   (69, [[0, 1], [0, 1, 9], [4], [0, 1, 13], [4], [5], [4]]),
   (70, [[0, 1, 2], [0, 1, 2, 11], [], [6]]),
   (71, [[0, 1, 9, 10], [0, 1, 9, 10, 11], [0, 1, 4, 9, 10], [0, 1, 4, 9, 10, 13], [0, 1, 4, 9, 10], [0, 1, 9, 10], [0, 1, 4, 9, 10, 35], [0, 1, 9, 10], [0, 1, 9, 10]]),
   (72, [[0], [0, 8], [2], [0, 3], [3], [2]]),
   (74, [[0, 1], [4]]),
   (75, [[1, 2], [1, 2, 4], [1, 2, 4, 5], [1, 2, 4, 5, 6], [1, 2, 4, 5, 6, 15], [1, 2, 4, 5, 6], [1, 2, 4, 5, 6], [1, 2, 4, 5, 6], [1, 2, 4, 5, 6, 7, 8], [1, 2, 4, 5, 6], [1, 2, 4], [1, 2, 4], [1, 2, 4], [2, 3]]),
   (76, [[1], [2]]),
   (77, [[1], [1, 5], [2], [2]]),
   (78, [[0, 3], [0, 3, 4], [0, 15], [], [0, 22], []]),
   (79, [[0], [0, 3], [0, 3, 4], [0, 3, 4, 7], [0, 3, 4], [0, 3, 4], [2]]),
   (80, [[0, 3], [0, 3, 4], [0], [], [0, 3, 28], [], [0, 38], [0], []]),
   (81, [[0, 1], [0, 1], [0, 1], [0, 4], [0, 4, 5], [0, 4, 5, 6], [0, 4, 5, 6, 30], [0, 4, 5, 6], [0, 4, 5, 6, 34], [0, 4, 5, 6], [0, 4, 5, 6, 34, 46], [0, 4, 5, 6], [0, 4, 5, 6, 51], [0, 4, 5, 6, 54], [0, 4, 5, 6], [0, 4, 5, 6]]),
   (82, [[0, 1, 2, 6], [0, 1, 2, 6, 22], [], [0, 1, 2, 6, 7, 8], [0, 1, 2, 6, 7, 8, 26], [0, 1, 2, 6, 7, 8], [0, 1, 2, 6, 8], [0, 1, 2, 6, 8, 9], [0, 1, 2, 6, 8, 9, 10], [0, 1, 2, 6, 8, 9, 10, 35], [0, 1, 2, 6, 8, 9, 10], [0, 1, 2, 6, 8, 9, 10], [0, 1, 2, 6, 8, 9, 10, 47], [0, 1, 2, 6, 8, 9, 10, 50], [0, 1, 2, 6, 8, 9, 10], [0, 1, 2, 6, 8, 9, 10], [0, 1, 2, 6, 8, 9, 10], [0, 1, 2, 6, 8, 9, 10], [0, 1, 2, 6, 8, 9, 10], [0, 1, 2, 6, 8, 9, 10], [0, 1, 2, 6, 8, 9, 10], [0, 1, 2, 6, 8, 9, 10, 88], [0, 1, 2, 6, 8, 9, 10], [0, 8], []]),
   (83, [[0, 1, 6], [0, 1, 4], [0, 4, 17], [0, 4], [], [0, 1, 6, 22], [], [0, 1, 6, 32], [], [0, 1, 42], [0, 48], [], []]),
   (84, [[1, 5, 6, 7], [1, 5, 6, 7, 8], [1, 4, 5, 6, 7], [1, 5, 6, 7], [1, 5, 6, 7]]),
   (85, [[1, 2, 3], [1, 2, 3, 13, 14, 15], [1, 2, 3, 13, 14, 15, 16], [1, 2, 3, 7, 13, 14, 15], [1, 2, 3, 13, 14, 15], [1, 2, 3, 13, 14, 15], [1, 2, 3, 24], [1, 2, 3], [1, 2, 3, 33], [1, 2, 3], [1, 2, 3, 48, 49, 50], [1, 2, 3, 48, 49, 50, 51], [1, 2, 3, 9, 48, 49, 50], [1, 2, 3, 48, 49, 50], [1, 2, 3, 48, 49, 50], [1, 3, 60, 61, 62], [1, 3, 60, 61, 62, 63], [1, 3, 11, 60, 61, 62], [1, 3, 60, 61, 62], [1, 3, 60, 61, 62], [1, 3, 72], []]),
   (86, [[1], [1, 3], [1, 3], [3], [2]]),
   (87, [[0, 1, 2], [0, 2, 7], [0, 2, 7, 17], [0, 2, 7], [0, 2, 7, 23], [6], [6]]),
   (91, [[0, 1, 2], [0, 1, 2, 7], [0, 1, 2, 7, 32], [0, 1, 2, 7], [6]]),
   (92, [[0, 1], [0, 1, 5], [0, 1, 5, 19], [0, 1, 5], [5, 35], [4], [4]]),
   (94, [[0], [0, 3], [0, 3, 7], [0, 3], [0, 3, 36], [2], [2]]),
   (95, [[0], [2]]),
   (96, [[0], [0, 5, 6, 7, 8], [0, 5, 6, 7, 8, 24], [2, 3, 4], [5, 6], [2, 3, 4]]),
   (97, [[0, 2, 4], [0, 2, 4, 16], [6], [0, 4, 30], [6], [0, 4, 7], [6]]),
   (98, [[0, 2, 3, 5, 8], [0, 2, 3, 5, 8, 9], [0, 2, 8, 9, 21], [0, 2, 8, 9], [0, 2, 8, 9], [8, 9], [8]]),
   (99, [[0, 3, 4], [0, 3, 4, 6], [0, 3, 4, 6, 7], [0, 3, 4, 6, 7, 39], [0, 3, 4, 6, 7, 46], [4, 5], [0, 3, 4, 6, 7, 8], [0, 3, 4, 6, 7, 8, 59], [0, 3, 4, 6, 7, 8], [0, 3, 4, 6, 7, 8, 68], [4, 5], [4, 5], [0, 3, 4, 6, 9, 10, 11, 12], [0, 3, 4, 6, 9, 10, 11, 12, 91], [4, 5], [0, 3, 4, 6, 9, 10, 11, 99], [4, 5], [0, 3, 4, 6, 9, 10, 11, 14], [0, 3, 4, 6, 9, 10, 11, 14, 15], [0, 3, 4, 6, 9, 10, 11, 14, 15, 16], [0, 3, 4, 6, 9, 10, 11, 14, 15, 16, 17], [0, 3, 4, 6, 9, 10, 11, 14, 15, 16, 17, 18], [0, 3, 4, 6, 9, 10, 11, 15, 16, 17, 18, 133], [0, 3, 4, 6, 9, 10, 16, 18], [4, 6, 9, 10, 16, 17, 18], [0, 3, 4, 6, 9, 10, 11, 16, 17, 18], [0, 3, 4, 6, 9, 10, 11, 16, 17, 18, 19, 20, 21], [0, 3, 4, 6, 9, 10, 11, 16, 17, 18, 19, 20, 155], [4, 5], [0, 3, 4, 6, 9, 10, 16, 18], [4, 6, 9, 10, 16, 17, 18], [0, 3, 4, 6, 9, 10, 16, 17, 18, 19, 20, 164], [4, 6, 9, 10, 16, 17, 18], [0, 3, 4, 6, 9, 10, 16, 18, 19, 178], [0, 3, 4, 6, 9, 10, 16, 18], [4, 6, 9, 10, 16, 17, 18], [0, 3, 4, 6, 9, 10, 16, 18, 19, 189], [4, 6, 9, 10, 16, 17, 18], [4, 16, 17], [4, 5]]),
   (100, [[0], []]),
   (101, [[0, 1, 2], [0, 2], [0, 2, 29], [2], [], []]),
   (102, [[0, 1, 5], [0, 1, 5, 6], [], [0, 1, 5, 17], [], [0, 1, 28], []]),
   (103, [[0, 4], [0], []]),
   (104, [[0], [2]]),
   (105, [[]]),
   (110, [[0, 1], [5], [4]]),
   (111, [[0, 1, 2], [6]]),
   (112, [[0], [0]]),
   (113, [[0], [0, 24], [2], [4], [2]]),
   (114, [[0, 1, 4], [0, 1, 4, 7], [4, 5], [0, 1, 4, 23], [4, 5], [4, 5]]),
   (116, [[0, 2, 4, 6], [0, 6, 8, 9], [0, 6, 8, 27], [6, 7], [0, 6, 8, 10], [0, 6, 8, 10, 38], [0, 6, 8, 10, 12], [0, 6, 8, 10, 12, 13], [0, 6, 8, 10, 13, 80], [6, 7], [0, 6, 8, 9, 10, 14, 15], [0, 6, 8, 10, 14, 15, 92], [6, 7], [0, 6, 8, 14, 103], [0, 6, 8, 14], [0, 6, 8, 14], [6, 8], [6, 7]]),
   (117, [[0], [0, 3], [0, 3, 4], [0, 3, 4, 12, 13], [0, 3, 4, 12, 13, 14], [0, 3, 4, 5, 12, 13], [0, 3, 4, 6, 12, 13], [0, 3, 4, 6, 12, 13], [0, 3, 4, 12, 13], [0, 3, 4, 12, 13], [0, 3], [2]]),
   (118, [[0], [2]]),
   (119, [[0, 1], [0, 1, 22], [4, 5], [0, 1, 7], [0, 1, 7, 10, 11], [0, 1, 7, 10, 11, 38], [4, 5], [0, 1, 7, 10, 11, 12], [0, 1, 7, 10, 11, 12, 42], [0, 1, 7, 10, 11, 12], [0, 1, 7, 10, 11, 12, 55], [0, 1, 7, 10, 11, 12, 13], [0, 1, 7, 10, 11, 12, 13, 59], [0, 7, 11, 12, 13, 62], [0, 7, 11, 13], [0, 1, 7, 10, 11, 12, 13, 59, 66], [0, 7, 12, 70], [4, 5], [0, 7, 11, 13], [0, 7, 11, 12, 13, 59, 78], [0, 7, 11, 12, 13, 59, 78], [0, 7, 12], [0, 7, 11, 13, 14], [0, 7, 11, 13, 90], [4, 5], [0, 7, 11, 12, 13, 59, 91], [0, 7, 11, 12, 13, 91], [0, 7, 11, 13], [0, 7, 13, 107], [4, 5], [0, 7, 12], [0, 12], [12, 115], [4, 5], [4, 5]]),
   (120, [[0, 1, 4], [0, 1, 4, 6], [0, 1, 4, 6, 7], [0, 1, 4, 6, 7, 8], [0, 1, 4, 6, 7, 8, 9], [0, 1, 4, 6, 7, 8, 9], [0, 1, 4, 6, 7, 8, 9, 10, 11], [0, 1, 4, 6, 7, 8, 9, 10, 47], [4, 5], [0, 1, 4, 6, 7, 9, 10], [0, 1, 4, 6, 7, 10], [0, 1, 4, 6, 7], [0, 1, 4, 6, 7, 76], [4, 5], [0, 1, 4, 6, 7, 12], [0, 1, 4, 6, 7, 12, 89], [4, 5], [0, 1, 4, 6, 7, 111], [4, 5], [0, 1, 4, 6, 7, 8]]),
   (121, [[0, 1, 4], [0, 1, 4, 6], [0, 1, 4, 6, 7], [0, 1, 4, 6, 7, 8], [0, 1, 4, 6, 7, 8, 9], [0, 1, 4, 6, 7, 8, 9, 10, 11], [0, 1, 4, 6, 7, 8, 9, 10, 11], [0, 1, 4, 6, 7, 8, 9, 10, 11, 39], [0, 1, 4, 6, 7, 8, 9, 10, 11, 12], [0, 1, 4, 6, 7, 8, 9, 10, 11], [0, 1, 4, 6, 7, 8, 9, 10, 11, 12, 13], [0, 1, 4, 6, 7, 8, 9, 10, 11, 12, 13, 55], [0, 1, 4, 6, 7, 8, 9, 10, 11], [0, 1, 4, 6, 7, 8, 9, 10, 11, 12], [0, 1, 4, 6, 7, 8, 9, 10, 11, 70], [4, 5], [0, 1, 4, 6, 7, 9, 10, 11], [0, 1, 4, 6, 7, 10, 11], [0, 1, 4, 6, 7], [0, 1, 4, 6, 7, 113], [4, 5], [0, 1, 4, 6, 7, 15], [0, 1, 4, 6, 7, 153], [4, 5], [0, 1, 4, 6, 7, 8]]),
   (122, [[0, 1], [0, 1, 5], [0, 1, 5, 7], [4], [0, 1, 5, 30], [0, 1, 5], [4]]),
   (123, [[0, 1], [0, 1, 22], [4], [0, 1, 34], [0, 1, 5], [0, 1, 5, 40], [0, 1, 5], [5, 65], [4], [4], [0, 1, 6], [0, 1, 6, 7], [0, 1, 6, 7, 77], [4], [8], [8, 86], [4], [4]]),
   (124, [[0, 1, 2, 3, 8], [0, 1, 2, 3, 8, 10], [0, 1, 2, 3, 8, 10, 13], [8, 9], [0, 1, 2, 3, 8, 10, 13, 30], [0, 8, 10, 13, 41], [8, 9], [0, 8, 10, 13], [0, 8, 10, 11, 12, 13], [0, 1, 2, 8, 10, 13, 64], [0, 1, 8, 10], [0, 1, 8, 10, 98], [0, 1, 8, 10], [0, 8, 10, 11, 12, 13], [0, 1, 2, 8, 10, 13, 116], [0, 8, 10, 11, 12, 13], [0, 1, 8, 10, 13, 154], [0, 8, 10, 11, 12, 13], [0, 1, 8, 10, 191], [0, 1, 8, 10], [0, 8, 10, 11, 12, 13], [0, 8, 10, 11, 12], [0, 8, 10, 11, 12, 221], [8, 9], [8, 10], [8, 9]]),
   (125, [[0], []]),
   (128, [[0, 1, 2, 3, 8], [0, 1, 2, 3, 8, 33], [8, 9, 10], [3, 8, 11], [8, 11, 12, 13], [8, 11, 12, 50], [8, 9, 10], [8, 9, 10]]),
   (131, [[0, 1, 2, 6, 7], [0, 1, 2, 6, 7], [0, 1, 2, 6, 7, 9, 10], [0, 1, 2, 6, 7, 9, 29], [6, 7, 8], [0, 1, 2, 6, 7, 9, 11], [0, 1, 2, 6, 7, 9, 11, 33], [0, 1, 2, 6, 7, 9, 11], [0, 1, 2, 6, 7, 9, 11], [0, 1, 2, 6, 7, 9, 11, 12], [0, 1, 2, 6, 7, 9, 11, 12, 76], [6, 7, 9, 12], [6, 7, 8], [0, 1, 2, 6, 7, 9, 11, 12], [0, 1, 2, 6, 7, 9, 11, 12], [6, 7, 9, 10, 11, 12], [6, 7, 9, 10, 12], [6, 7, 8]]),
   (132, [[0, 1, 4], [0, 1, 4, 7], [0, 1, 4, 7, 8], [0, 1, 4, 7, 8, 10, 11, 12], [0, 1, 4, 7, 8, 10, 11, 12, 14], [0, 1, 4, 7, 8, 10, 11, 12, 14, 45], [0, 1, 4, 7, 8, 10, 11, 12, 14], [0, 1, 4, 7, 8, 10, 11, 12, 14, 15], [0, 1, 4, 7, 8, 10, 11, 12, 14, 15, 56], [0, 1, 4, 7, 8, 10, 11, 12, 14, 15], [0, 1, 4, 7, 8, 10, 11, 12, 14, 15, 66], [4, 7, 8, 10, 11, 12, 15], [4, 7, 8, 10, 11, 12, 15, 16, 17], [4, 7, 8, 10, 11, 12, 15, 16, 91], [4, 5, 6], [4, 7, 8, 10, 11, 12, 15], [4, 7, 8, 10, 11, 15, 97], [4, 8, 15], [4, 5, 6]]),
   (133, [[0, 1], [0, 1, 15], [4], [0, 1, 19], [4], [40], [4], [4]]),
   (134, [[0, 1], [0, 1, 5], [0, 1, 5, 6], [0, 1, 5, 6, 29], [4], [0, 1, 5]]),
   (135, [[0, 1, 2, 6], [0, 1, 2, 6, 53], [6, 7, 8], [0, 1, 2, 6, 9, 10, 11, 12, 13, 14], [0, 1, 2, 6, 9, 10, 11, 12, 13, 14, 67], [6, 7, 8], [0, 1, 2, 6, 9, 10, 11, 15], [0, 2, 6, 9, 10, 11, 15, 77], [0, 2, 6, 9, 10, 11, 15], [0, 2, 6, 10, 11, 15, 16], [0, 2, 6, 10, 11, 15, 16, 17], [0, 2, 6, 10, 11, 15, 16, 17, 93], [0, 2, 6, 10, 11, 15, 16, 17], [0, 2, 6, 10, 11, 15, 16, 17, 18], [0, 2, 6, 10, 11, 15, 16, 17, 18, 101], [0, 2, 6, 10, 11, 15, 16, 17, 18, 19, 20], [0, 2, 6, 10, 11, 15, 16, 17, 18, 20, 112], [0, 2, 6, 10, 11, 15, 16, 17, 18, 21], [0, 6, 10, 11, 15, 16, 17, 18, 128], [0, 6, 10, 11, 15, 16, 17], [0, 2, 6, 10, 11, 15, 16, 17, 18], [0, 6, 10, 11, 15, 16, 17, 22], [0, 6, 10, 11, 15, 17, 22, 23, 24, 25, 26], [0, 6, 10, 11, 15, 17, 22, 23, 24, 25, 26, 139], [0, 6, 10, 11, 15, 17, 22, 23, 24, 25, 26, 27, 28], [0, 6, 10, 11, 15, 17, 22, 23, 24, 25, 26, 27, 28, 29], [0, 6, 10, 11, 15, 17, 22, 23, 24, 25, 26, 27, 28, 29, 30], [0, 6, 10, 11, 15, 17, 22, 23, 24, 25, 26, 27, 28, 29, 30, 156], [0, 6, 10, 11, 15, 17, 22, 23, 24, 25, 27, 28, 167], [0, 6, 10, 11, 15, 17, 22, 24, 25, 26, 27, 28], [0, 6, 10, 11, 15, 17, 22, 24, 25, 26, 27, 28, 183], [6, 7, 8], [0, 6, 10, 11, 15, 17, 22, 24, 25, 26, 27, 28, 31], [0, 6, 10, 11, 15, 17, 22, 24, 25, 26, 27, 28, 31, 192], [0, 6, 10, 11, 15, 17, 22, 24, 25, 26, 28, 31], [0, 6, 10, 11, 15, 17, 22, 24, 25, 26, 28, 31], [0, 6, 10, 11, 15, 17, 22, 24, 25, 26, 28, 204], [0, 6, 10, 11, 15, 17, 22, 24, 25, 26, 28], [0, 6, 10, 11, 15, 17, 22, 23, 24, 25, 26], [0, 6, 11, 15, 22, 23, 24, 25], [0, 6, 11, 15, 22, 23, 24, 25, 32], [0, 6, 11, 15, 22, 23, 24, 32, 33], [0, 6, 11, 15, 22, 23, 24, 32, 33, 218], [0, 6, 11, 15, 22, 23, 24, 32, 33], [0, 6, 11, 15, 22, 23, 24, 32, 33, 224], [0, 6, 11, 15, 22, 23, 24, 32, 33], [6, 11, 15, 22, 23, 24, 32, 236], [6, 11, 15, 22, 23, 24, 32], [6, 11, 15, 22, 23, 24, 32, 240], [6, 11, 15, 22, 23, 24, 32], [6, 15, 22, 23, 24, 32, 242], [6, 15, 22, 23, 24, 32], [6, 15, 23], [6, 7, 8]]),
   (137, [[0], [0, 3, 4, 5], [0, 3, 4, 5, 6], [0, 3, 4, 5, 6, 19], [0, 3, 4, 5, 6], [0, 3, 4, 5, 6, 7], [0, 3, 4, 5, 6, 7, 40], [0, 3, 4, 5, 6], [0, 3, 4, 6, 7, 48], [0, 3, 4, 6, 7], [0, 3, 6, 7], [0, 3, 4, 5, 6], [2]]),
   (138, [[0, 1], [0, 1, 32], [4, 5, 6], [0, 1, 7], [0, 1, 7, 35], [0, 1, 7], [0, 1, 7, 44], [4, 5, 6], [0, 1, 8], [0, 1, 8, 52], [0, 1, 8, 52, 53], [0, 1, 8], [0, 1, 8, 52, 55], [0, 1, 8], [0, 1, 8, 57], [0, 1, 8], [0, 1, 8, 69], [4, 5, 6], [0, 1, 8, 9], [0, 1, 8, 9, 10], [0, 1, 8, 9, 10, 73], [0, 1, 8, 9, 10], [0, 1, 8, 9, 10, 11], [0, 1, 8, 9, 10, 11, 88], [4, 5, 6], [0, 1, 8, 9, 10], [1, 8, 9, 96], [4, 5, 6], [4, 5, 6]]),
   (139, [[0], [0, 3], [2], [0, 7], [2], [0, 14], [2], [0, 27], [2], [2]]),
   (140, [[0, 1, 2], [0, 1, 2, 11], [0, 1, 2, 11, 12], [0, 1, 2, 11, 12], [6], [0, 1, 2, 16], [6], [0, 1, 22], [0, 1, 8], [6], [6]]),
   (141, [[0, 1, 4], [0, 1, 4, 6], [0, 1, 4, 6, 7], [0, 1, 4, 6, 7, 29], [0, 1, 4, 6, 7], [0, 1, 4, 6, 7, 32], [4, 5], [0, 1, 4, 6, 7], [0, 1, 4, 6, 7, 8, 9], [0, 1, 4, 6, 7, 8, 53], [4, 5], [0, 1, 4, 6, 7, 8, 10], [0, 1, 4, 6, 7, 8, 10, 60], [0, 1, 4, 6, 7, 8, 10, 74], [4, 5], [0, 1, 4, 6, 7, 8, 10], [0, 1, 4, 6, 7, 8, 10, 84], [0, 1, 4, 6, 7, 8, 12, 13, 14, 15], [0, 1, 4, 6, 7, 8, 12, 13, 14, 95], [4, 5], [0, 1, 4, 6, 7, 8, 13, 14], [0, 1, 4, 6, 7, 8, 11, 13, 14], [0, 1, 4, 6, 7, 8, 11, 13, 110], [0, 1, 4, 6, 7, 8, 11, 13], [0, 1, 4, 6, 7, 8, 11], [0, 1, 4, 6, 7, 8, 16, 17, 18, 19], [0, 1, 4, 6, 7, 8, 16, 17, 18, 127], [4, 5], [0, 1, 4, 6, 7, 8, 18], [0, 1, 4, 6, 7, 8, 11, 18], [0, 1, 4, 6, 7, 8, 11], [0, 1, 4, 6, 7, 8, 11, 145], [0, 1, 4, 6, 7, 8, 11, 20], [0, 1, 4, 6, 7, 8, 11, 20], [0, 1, 4, 6, 7, 8, 11, 20, 21, 22], [0, 1, 4, 6, 7, 8, 11, 20, 21, 163], [4, 5], [0, 1, 4, 6, 7, 8, 11, 20, 21, 168], [0, 1, 4, 6, 7, 8, 11, 21], [0, 1, 4, 6, 7, 8, 11], [0, 1, 4, 6, 7, 8, 11, 191], [4, 5], [0, 1, 4, 6, 7, 8, 10], [4, 6, 10], [4, 6], [4, 5]]),
   (142, [[0], [2]]),
   (143, [[0, 1], [0, 1, 10, 11, 12], [0, 1, 10, 11, 12, 13], [0, 1, 10, 11, 12, 13, 26], [0, 1, 10, 11, 12, 13], [0, 1, 10, 11, 12, 13, 29], [0, 1, 10, 11, 12, 13], [0, 1, 10, 11, 12, 13], [0, 1, 10, 11, 12, 13, 51], [0, 1, 10, 11, 12, 13], [0, 1, 10, 11, 12, 13], [0, 10, 11, 12, 15], [0, 10, 11, 12, 15, 16], [0, 10, 11, 12, 15, 16, 83], [4, 5, 6, 7, 8, 9], [0, 11, 12, 15, 16, 95], [4, 5, 6, 7, 8, 9], [4, 5, 6, 7, 8, 9]]),
   (144, [[0, 1, 2], [6]]),
   (145, [[0, 1], [0, 1, 5], [0, 5, 11], [0, 5, 6], [0, 5, 6, 15], [0, 5, 6], [0, 5, 6, 19], [0, 5, 6], [0, 5, 6], [4], [0, 5, 7, 8], [0, 5, 7, 8, 9], [0, 5, 7, 8, 9, 32], [0, 5, 7, 8, 9], [0, 5, 7, 8, 9, 39], [0, 5, 7, 8, 9], [0, 5, 9], [0, 5, 7, 8, 9, 46], [0, 5, 9], [0, 5, 8, 9, 53], [0, 5, 9], [0, 5, 8, 9, 73], [0, 5, 9], [0, 5, 9], [0, 5, 7, 8, 9], [5, 8, 90], [5, 8], [4]]),
   (147, [[0], [0, 3, 4], [0, 3, 4, 5], [0, 3, 4, 5, 9], [0, 3, 4, 5], [0, 3, 4, 5, 13], [0, 3, 4, 5], [0, 3, 4, 5, 28], [0, 3, 4, 5], [0, 3, 4, 5, 32], [0, 3, 4, 5], [0, 3, 5], [0, 3, 4, 5], [2]]),
   (148, [[0], [0, 3], [0, 3, 4], [2], [0, 3, 6], [2], [0, 3, 8], [2], [0, 3, 10], [0, 3, 10], [2], [0, 3, 13], [2], [0, 3, 15], [2], [0, 3, 17], [2], [0, 3, 19], [2], [0, 3, 21], [2], [0, 3, 23], [2], [0, 3, 25], [2], [0, 3, 27], [2], [0, 29], [2], [2]]),
   (149, [[0], [2]]),
   (150, [[0, 1], [4]]),
   (151, [[0, 1, 2], [0, 1, 2, 11], [], [6]]),
   (152, [[0, 2], [0, 2, 4], [0, 2, 4, 5, 6, 7, 8], [0, 2, 4, 5, 6, 7, 8, 32], [2, 3], [2, 4, 5, 6], [2, 3]]),
   (153, [[0], [2]]),
   (154, [[0, 1, 2, 6, 7], [0, 1, 2, 6, 7, 10], [0, 1, 2, 6, 7, 10, 32], [0, 1, 2, 6, 7, 10, 35], [6, 7, 8, 9], [0, 1, 2, 6, 7, 10, 11, 12, 13], [0, 1, 2, 6, 7, 10, 11, 12, 50], [6, 7, 8, 9], [0, 1, 6, 7, 10, 11, 12, 13, 14, 15], [6, 7, 8, 9], [0, 1, 2, 6, 7, 10, 16], [0, 1, 2, 6, 7, 10, 16, 79], [0, 1, 2, 6, 7, 10, 16, 17, 18], [0, 1, 2, 6, 7, 10, 16, 17, 88], [6, 7, 8, 9], [0, 1, 2, 6, 7, 10, 16], [0, 1, 2, 6, 7, 10, 16, 20], [0, 1, 2, 6, 7, 10, 16], [0, 1, 2, 6, 7, 10, 16, 126], [0, 1, 2, 6, 7, 10, 16, 21], [0, 1, 2, 6, 7, 10, 16, 143], [6, 7, 8, 9], [0, 1, 2, 6, 7, 10, 16], [0, 1, 6, 7, 10, 16, 22, 23, 24], [6, 7, 8, 9], [0, 1, 6, 7, 10, 16], [0, 1, 6, 7, 10, 16, 25, 26], [0, 1, 6, 7, 10, 16, 25, 26, 190], [0, 1, 6, 7, 10, 16, 25, 26], [0, 6, 7, 10, 16, 25, 26], [6, 7, 16, 25, 26], [6, 7, 8, 9]]),
   (155, [[0, 1, 2, 6, 7, 8], [0, 1, 2, 6, 7, 8, 10], [0, 1, 2, 6, 7, 8, 10, 11], [0, 1, 2, 6, 7, 8, 10, 11, 12], [0, 1, 2, 6, 7, 8, 10, 11, 12, 13], [0, 1, 2, 6, 7, 8, 10, 11, 12, 13, 24], [0, 1, 2, 6, 7, 8, 10, 11, 12, 13], [0, 1, 2, 6, 7, 8, 10, 11, 12, 13, 35], [0, 1, 2, 6, 7, 8, 10, 11, 12, 13], [0, 1, 2, 6, 7, 8, 10, 11, 12, 44], [6, 7, 8, 9], [0, 2, 6, 7, 8, 10, 11], [0, 2, 6, 7, 8, 11], [6, 7, 8, 11, 13, 14, 15], [6, 7, 8, 9]]),
   (156, [[0, 1], [5], [4]]),
   (157, [[0, 1], [4]]),
   (158, [[0, 1, 2], [0, 1, 13], [6], [1], [6]]),
   (160, [[0], [2]]),
   (161, [[0, 1, 5], [0, 1, 5], [0, 1, 5, 7], [0, 1, 5, 7, 8, 9], [0, 1, 5, 7, 8, 28], [4, 5, 6], [0, 1, 5, 7, 8, 35], [4, 5, 6], [5, 8, 9, 10], [4, 5, 6]]),
   (162, [[0, 2, 4, 6, 7], [0, 2, 4, 6, 7, 9], [0, 2, 4, 6, 7, 9, 16], [0, 2, 4, 6, 7, 9, 10, 11], [0, 2, 4, 6, 7, 9, 10, 23], [6, 7, 8], [0, 2, 4, 6, 7, 9], [0, 2, 6, 7, 9, 30], [0, 2, 6, 7, 9], [6, 7, 8], [6, 7, 8]]),
   (163, [[0, 1, 2, 8, 9, 10], [10]]),
   (164, [[0, 1], [4]]),
   (165, [[0, 1, 4], [0, 4, 6, 7], [0, 4, 6, 7, 19], [4, 5], [4, 5]]),
   (166, [[1], [1, 3], [1, 3, 4], [1, 3, 4, 9], [1, 3, 4], [1, 3, 4], [3, 27], [3], [2]]),
   (167, [[0, 1, 2, 6, 7], [0, 1, 2, 6, 7, 9, 10], [0, 1, 2, 6, 7, 9, 19], [6, 7, 8], [0, 1, 2, 6, 7, 9, 23], [1, 6, 7, 9, 11], [6, 7, 9, 11], [6, 7, 8], [0, 1, 6, 7, 9, 10, 12], [0, 1, 6, 7, 9, 12, 36], [6, 7, 8], [0, 6, 7, 9, 12], [6, 7, 9, 10, 12], [6, 7, 8]]),
   (168, [[0, 1, 4], [0, 1, 4, 6], [0, 1, 4, 6, 7, 8, 9, 10], [0, 1, 4, 6, 7, 8, 9, 10, 36], [4, 5], [0, 1, 4, 6, 7, 8, 9, 11], [0, 1, 4, 6, 7, 8, 9, 11, 12], [0, 1, 4, 6, 7, 8, 9, 11, 12, 45], [0, 1, 4, 6, 7, 8, 9, 11], [0, 1, 4, 6, 7, 8, 9, 11, 13, 14], [0, 1, 4, 6, 7, 8, 9, 11, 13, 56], [4, 5], [0, 1, 4, 6, 7, 8, 9, 11, 12], [0, 4, 6, 7, 8, 9, 11, 12, 15, 16], [0, 4, 6, 7, 8, 9, 11, 12, 15, 68], [4, 5], [0, 4, 6, 7, 8, 9, 11, 12, 15, 72], [0, 4, 6, 7, 8, 9, 11, 15], [4, 6, 7, 8, 9, 11, 15], [4, 6, 7, 8, 11, 15], [4, 6, 7, 8, 15, 84], [4, 15], [4, 5], [4, 6, 7, 8, 12, 15], [4, 12, 15], [4, 15], [4, 5]]),
   (169, [[0, 1, 2, 6], [0, 1, 2, 6, 8], [0, 1, 2, 6, 8, 9], [0, 1, 2, 6, 8, 9, 10], [0, 1, 2, 6, 8, 9, 10], [6, 7], [0, 1, 2, 6, 8, 9, 10, 21], [0, 6, 8, 9, 24], [6, 7], [0, 6, 8, 9], [0, 6, 8, 9, 10, 11], [0, 1, 6, 8, 9, 10, 43], [0, 6, 8, 9], [0, 6, 8, 9, 56], [0, 6, 8, 9], [0, 6, 8, 9, 10, 11], [0, 1, 6, 8, 9, 10, 77], [0, 6, 8, 9, 10, 12, 13], [0, 6, 8, 9, 10, 12, 91], [6, 7], [0, 6, 8, 9, 10, 11], [0, 6, 8, 9, 10, 11], [0, 6, 8, 9, 108], [0, 6, 8, 9], [0, 6, 8, 9, 10, 11], [0, 6, 8, 9, 10, 11, 138], [6, 7], [6, 8], [6, 7]])]
def liveT (f : Nat) : List (List Nat) := (assoc liveL f).getD []
end Ab
end Go.Proofs.YtlmjabnkjmfcmaaGreat
/- A run on abstract values: this program's types are as the table says; its functions may be run. -/
namespace Go.Proofs.YtlmjabnkjmfcmaaGreat
open Go Go.RowKit Go.PlainAid
set_option linter.unusedVariables false
set_option linter.unusedSimpArgs false
set_option maxRecDepth 100000
namespace Ab
theorem assoc_mem {α : Type} {n : Nat} {v : α} : ∀ {l : List (Nat × α)}, assoc l n = some v → (n, v) ∈ l
  | [], h => by cases h
  | (k, u) :: r, h => by
    rw [assoc] at h
    split at h
    · rename_i e
      cases h
      rw [Nat.eq_of_beq_eq_true e]; exact List.mem_cons_self
    · exact List.mem_cons_of_mem _ (assoc_mem h)
/-- What must be so of a type of the table. -/
structure TY (P : Program) (t : Nat) (d : TD) : Prop where
  und : ∃ u, P.underlying t = some u ∧ u.isRow = d.agg ∧ (∀ e, d.elem = some e → u = .slice e)
  fld : d.agg = true → ∃ fs : Array Field, P.underlying t = some (.struct fs) ∧ fs.size = d.offs.length ∧ ∀ (f : Nat) (q : Nat × Nat × Bool), d.offs[f]? = some q → ∃ (fl : Field) (i : TypeInfo) (u : TypeDesc), fs[f]? = some fl ∧ fl.offset = q.1 ∧ P.info? fl.type = some i ∧ i.size = q.2.1 ∧ P.underlying fl.type = some u ∧ u.isRow = q.2.2
  off : d.agg = false → d.offs = []
  info : ∃ (i : TypeInfo) (z : Value), P.info? t = some i ∧ i.size = d.size ∧ i.bytes = d.bytes ∧ i.zero = some z ∧ z.cells.size = d.size ∧ zrs d.zero z.cells.toList
theorem TOK_of {P : Program} (h1 : P.underlying 9 = some .string) (h2 : P.underlying 5 = some (.int .u8)) (h3 : P.underlying 3 = some (.int .i64)) (h4 : P.follows .mixedOrders = true) (h : ∀ p ∈ tyL, TY P p.1 p.2) : TOK P tyT :=
  ⟨h1, h2, h3, h4, fun t d ht => (h _ (assoc_mem ht)).und, fun t d ht => (h _ (assoc_mem ht)).fld, fun t d ht => (h _ (assoc_mem ht)).off, fun t d ht => (h _ (assoc_mem ht)).info⟩
theorem offs_cases {α : Type} {p : Nat → α → Prop} : ∀ {l : List α} {k : Nat}, (∀ (i : Nat) (x : α), l[i]? = some x → p (k + i) x) ↔ match l with | [] => True | x :: r => p k x ∧ ∀ (i : Nat) (y : α), r[i]? = some y → p (k + 1 + i) y
  | [], k => by simp
  | x :: r, k => by
    constructor
    · intro h
      refine ⟨h 0 x rfl, fun i y hy => ?_⟩
      have := h (i + 1) y (by simpa using hy)
      rw [show k + (i + 1) = k + 1 + i by omega] at this
      exact this
    · rintro ⟨h1, h2⟩ i y hy
      cases i with
      | zero => simp at hy; subst hy; exact h1
      | succ i =>
        have := h2 i y (by simpa using hy)
        rw [show k + (i + 1) = k + 1 + i by omega]
        exact this
theorem offs_all {fs : Array Field} {l : List (Nat × Nat × Bool)} {P : Program} (h : ∀ i, i < l.length → ∃ (fl : Field) (inf : TypeInfo) (u : TypeDesc), fs[i]? = some fl ∧ fl.offset = (l.getD i (0, 0, false)).1 ∧ P.info? fl.type = some inf ∧ inf.size = (l.getD i (0, 0, false)).2.1 ∧ P.underlying fl.type = some u ∧ u.isRow = (l.getD i (0, 0, false)).2.2) : ∀ (f : Nat) (q : Nat × Nat × Bool), l[f]? = some q → ∃ (fl : Field) (i : TypeInfo) (u : TypeDesc), fs[f]? = some fl ∧ fl.offset = q.1 ∧ P.info? fl.type = some i ∧ i.size = q.2.1 ∧ P.underlying fl.type = some u ∧ u.isRow = q.2.2 := by
  intro f q hq
  have hl := (List.getElem?_eq_some_iff.1 hq).1
  have := h f hl
  rw [List.getD_eq_getElem?_getD, hq] at this
  exact this
theorem tok : TOK Tryz.prog tyT := by
  refine TOK_of rfl rfl rfl rfl ?_
  simp only [tyL, List.forall_mem_cons]
  refine ⟨?_, ?_, ?_, ?_, ?_, ?_, ?_, ?_, ?_, ?_, ?_, ?_, ?_, ?_, ?_, ?_, ?_, ?_, ?_, ?_, ?_, ?_, ?_, ?_, ?_, ?_, fun p hp => by cases hp⟩
  · refine ⟨⟨_, rfl, rfl, fun e h => ?_⟩, fun h => ?_, fun h => ?_, ⟨_, _, rfl, rfl, rfl, rfl, rfl, ?_⟩⟩
    · cases h
    · cases h
    · rfl
    · iterate 1 refine Exists.intro _ (Exists.intro _ (And.intro rfl (And.intro rfl ?_)))
      rfl
  · refine ⟨⟨_, rfl, rfl, fun e h => ?_⟩, fun h => ?_, fun h => ?_, ⟨_, _, rfl, rfl, rfl, rfl, rfl, ?_⟩⟩
    · cases h
    · cases h
    · rfl
    · iterate 1 refine Exists.intro _ (Exists.intro _ (And.intro rfl (And.intro rfl ?_)))
      rfl
  · refine ⟨⟨_, rfl, rfl, fun e h => ?_⟩, fun h => ?_, fun h => ?_, ⟨_, _, rfl, rfl, rfl, rfl, rfl, ?_⟩⟩
    · cases h
    · cases h
    · rfl
    · iterate 1 refine Exists.intro _ (Exists.intro _ (And.intro rfl (And.intro rfl ?_)))
      rfl
  · refine ⟨⟨_, rfl, rfl, fun e h => ?_⟩, fun h => ?_, fun h => ?_, ⟨_, _, rfl, rfl, rfl, rfl, rfl, ?_⟩⟩
    · cases h
    · cases h
    · rfl
    · iterate 1 refine Exists.intro _ (Exists.intro _ (And.intro rfl (And.intro rfl ?_)))
      rfl
  · refine ⟨⟨_, rfl, rfl, fun e h => ?_⟩, fun h => ?_, fun h => ?_, ⟨_, _, rfl, rfl, rfl, rfl, rfl, ?_⟩⟩
    · cases h
    · cases h
    · rfl
    · iterate 1 refine Exists.intro _ (Exists.intro _ (And.intro rfl (And.intro rfl ?_)))
      rfl
  · refine ⟨⟨_, rfl, rfl, fun e h => ?_⟩, fun h => ?_, fun h => ?_, ⟨_, _, rfl, rfl, rfl, rfl, rfl, ?_⟩⟩
    · cases h
    · cases h
    · rfl
    · iterate 1 refine Exists.intro _ (Exists.intro _ (And.intro rfl (And.intro rfl ?_)))
      rfl
  · refine ⟨⟨_, rfl, rfl, fun e h => ?_⟩, fun h => ?_, fun h => ?_, ⟨_, _, rfl, rfl, rfl, rfl, rfl, ?_⟩⟩
    · cases h; rfl
    · cases h
    · rfl
    · iterate 1 refine Exists.intro _ (Exists.intro _ (And.intro rfl (And.intro rfl ?_)))
      rfl
  · refine ⟨⟨_, rfl, rfl, fun e h => ?_⟩, fun h => ?_, fun h => ?_, ⟨_, _, rfl, rfl, rfl, rfl, rfl, ?_⟩⟩
    · cases h; rfl
    · cases h
    · rfl
    · iterate 1 refine Exists.intro _ (Exists.intro _ (And.intro rfl (And.intro rfl ?_)))
      rfl
  · refine ⟨⟨_, rfl, rfl, fun e h => ?_⟩, fun h => ?_, fun h => ?_, ⟨_, _, rfl, rfl, rfl, rfl, rfl, ?_⟩⟩
    · cases h; rfl
    · cases h
    · rfl
    · iterate 1 refine Exists.intro _ (Exists.intro _ (And.intro rfl (And.intro rfl ?_)))
      rfl
  · refine ⟨⟨_, rfl, rfl, fun e h => ?_⟩, fun h => ?_, fun h => ?_, ⟨_, _, rfl, rfl, rfl, rfl, rfl, ?_⟩⟩
    · cases h; rfl
    · cases h
    · rfl
    · iterate 1 refine Exists.intro _ (Exists.intro _ (And.intro rfl (And.intro rfl ?_)))
      rfl
  · refine ⟨⟨_, rfl, rfl, fun e h => ?_⟩, fun h => ?_, fun h => ?_, ⟨_, _, rfl, rfl, rfl, rfl, rfl, ?_⟩⟩
    · cases h; rfl
    · cases h
    · rfl
    · iterate 1 refine Exists.intro _ (Exists.intro _ (And.intro rfl (And.intro rfl ?_)))
      rfl
  · refine ⟨⟨_, rfl, rfl, fun e h => ?_⟩, fun h => ?_, fun h => ?_, ⟨_, _, rfl, rfl, rfl, rfl, rfl, ?_⟩⟩
    · cases h; rfl
    · cases h
    · rfl
    · iterate 1 refine Exists.intro _ (Exists.intro _ (And.intro rfl (And.intro rfl ?_)))
      rfl
  · refine ⟨⟨_, rfl, rfl, fun e h => ?_⟩, fun h => ?_, fun h => ?_, ⟨_, _, rfl, rfl, rfl, rfl, rfl, ?_⟩⟩
    · cases h; rfl
    · cases h
    · rfl
    · iterate 1 refine Exists.intro _ (Exists.intro _ (And.intro rfl (And.intro rfl ?_)))
      rfl
  · refine ⟨⟨_, rfl, rfl, fun e h => ?_⟩, fun h => ?_, fun h => ?_, ⟨_, _, rfl, rfl, rfl, rfl, rfl, ?_⟩⟩
    · cases h
    · refine ⟨_, rfl, rfl, offs_all fun i hi => ?_⟩
      rcases i with _ | i
      · exact ⟨_, _, _, rfl, rfl, rfl, rfl, rfl, rfl⟩
      rcases i with _ | i
      · exact ⟨_, _, _, rfl, rfl, rfl, rfl, rfl, rfl⟩
      exact absurd hi (by simp)
    · cases h
    · iterate 2 refine Exists.intro _ (Exists.intro _ (And.intro rfl (And.intro rfl ?_)))
      rfl
  · refine ⟨⟨_, rfl, rfl, fun e h => ?_⟩, fun h => ?_, fun h => ?_, ⟨_, _, rfl, rfl, rfl, rfl, rfl, ?_⟩⟩
    · cases h
    · refine ⟨_, rfl, rfl, offs_all fun i hi => ?_⟩
      rcases i with _ | i
      · exact ⟨_, _, _, rfl, rfl, rfl, rfl, rfl, rfl⟩
      rcases i with _ | i
      · exact ⟨_, _, _, rfl, rfl, rfl, rfl, rfl, rfl⟩
      rcases i with _ | i
      · exact ⟨_, _, _, rfl, rfl, rfl, rfl, rfl, rfl⟩
      rcases i with _ | i
      · exact ⟨_, _, _, rfl, rfl, rfl, rfl, rfl, rfl⟩
      rcases i with _ | i
      · exact ⟨_, _, _, rfl, rfl, rfl, rfl, rfl, rfl⟩
      rcases i with _ | i
      · exact ⟨_, _, _, rfl, rfl, rfl, rfl, rfl, rfl⟩
      rcases i with _ | i
      · exact ⟨_, _, _, rfl, rfl, rfl, rfl, rfl, rfl⟩
      rcases i with _ | i
      · exact ⟨_, _, _, rfl, rfl, rfl, rfl, rfl, rfl⟩
      rcases i with _ | i
      · exact ⟨_, _, _, rfl, rfl, rfl, rfl, rfl, rfl⟩
      rcases i with _ | i
      · exact ⟨_, _, _, rfl, rfl, rfl, rfl, rfl, rfl⟩
      rcases i with _ | i
      · exact ⟨_, _, _, rfl, rfl, rfl, rfl, rfl, rfl⟩
      rcases i with _ | i
      · exact ⟨_, _, _, rfl, rfl, rfl, rfl, rfl, rfl⟩
      exact absurd hi (by simp)
    · cases h
    · iterate 12 refine Exists.intro _ (Exists.intro _ (And.intro rfl (And.intro rfl ?_)))
      rfl
  · refine ⟨⟨_, rfl, rfl, fun e h => ?_⟩, fun h => ?_, fun h => ?_, ⟨_, _, rfl, rfl, rfl, rfl, rfl, ?_⟩⟩
    · cases h
    · refine ⟨_, rfl, rfl, offs_all fun i hi => ?_⟩
      rcases i with _ | i
      · exact ⟨_, _, _, rfl, rfl, rfl, rfl, rfl, rfl⟩
      rcases i with _ | i
      · exact ⟨_, _, _, rfl, rfl, rfl, rfl, rfl, rfl⟩
      rcases i with _ | i
      · exact ⟨_, _, _, rfl, rfl, rfl, rfl, rfl, rfl⟩
      rcases i with _ | i
      · exact ⟨_, _, _, rfl, rfl, rfl, rfl, rfl, rfl⟩
      rcases i with _ | i
      · exact ⟨_, _, _, rfl, rfl, rfl, rfl, rfl, rfl⟩
      exact absurd hi (by simp)
    · cases h
    · iterate 16 refine Exists.intro _ (Exists.intro _ (And.intro rfl (And.intro rfl ?_)))
      rfl
  · refine ⟨⟨_, rfl, rfl, fun e h => ?_⟩, fun h => ?_, fun h => ?_, ⟨_, _, rfl, rfl, rfl, rfl, rfl, ?_⟩⟩
    · cases h
    · refine ⟨_, rfl, rfl, offs_all fun i hi => ?_⟩
      rcases i with _ | i
      · exact ⟨_, _, _, rfl, rfl, rfl, rfl, rfl, rfl⟩
      rcases i with _ | i
      · exact ⟨_, _, _, rfl, rfl, rfl, rfl, rfl, rfl⟩
      exact absurd hi (by simp)
    · cases h
    · iterate 2 refine Exists.intro _ (Exists.intro _ (And.intro rfl (And.intro rfl ?_)))
      rfl
  · refine ⟨⟨_, rfl, rfl, fun e h => ?_⟩, fun h => ?_, fun h => ?_, ⟨_, _, rfl, rfl, rfl, rfl, rfl, ?_⟩⟩
    · cases h
    · refine ⟨_, rfl, rfl, offs_all fun i hi => ?_⟩
      rcases i with _ | i
      · exact ⟨_, _, _, rfl, rfl, rfl, rfl, rfl, rfl⟩
      rcases i with _ | i
      · exact ⟨_, _, _, rfl, rfl, rfl, rfl, rfl, rfl⟩
      exact absurd hi (by simp)
    · cases h
    · iterate 2 refine Exists.intro _ (Exists.intro _ (And.intro rfl (And.intro rfl ?_)))
      rfl
  · refine ⟨⟨_, rfl, rfl, fun e h => ?_⟩, fun h => ?_, fun h => ?_, ⟨_, _, rfl, rfl, rfl, rfl, rfl, ?_⟩⟩
    · cases h
    · refine ⟨_, rfl, rfl, offs_all fun i hi => ?_⟩
      rcases i with _ | i
      · exact ⟨_, _, _, rfl, rfl, rfl, rfl, rfl, rfl⟩
      rcases i with _ | i
      · exact ⟨_, _, _, rfl, rfl, rfl, rfl, rfl, rfl⟩
      exact absurd hi (by simp)
    · cases h
    · iterate 2 refine Exists.intro _ (Exists.intro _ (And.intro rfl (And.intro rfl ?_)))
      rfl
  · refine ⟨⟨_, rfl, rfl, fun e h => ?_⟩, fun h => ?_, fun h => ?_, ⟨_, _, rfl, rfl, rfl, rfl, rfl, ?_⟩⟩
    · cases h
    · refine ⟨_, rfl, rfl, offs_all fun i hi => ?_⟩
      rcases i with _ | i
      · exact ⟨_, _, _, rfl, rfl, rfl, rfl, rfl, rfl⟩
      rcases i with _ | i
      · exact ⟨_, _, _, rfl, rfl, rfl, rfl, rfl, rfl⟩
      rcases i with _ | i
      · exact ⟨_, _, _, rfl, rfl, rfl, rfl, rfl, rfl⟩
      rcases i with _ | i
      · exact ⟨_, _, _, rfl, rfl, rfl, rfl, rfl, rfl⟩
      rcases i with _ | i
      · exact ⟨_, _, _, rfl, rfl, rfl, rfl, rfl, rfl⟩
      exact absurd hi (by simp)
    · cases h
    · iterate 5 refine Exists.intro _ (Exists.intro _ (And.intro rfl (And.intro rfl ?_)))
      rfl
  · refine ⟨⟨_, rfl, rfl, fun e h => ?_⟩, fun h => ?_, fun h => ?_, ⟨_, _, rfl, rfl, rfl, rfl, rfl, ?_⟩⟩
    · cases h
    · refine ⟨_, rfl, rfl, offs_all fun i hi => ?_⟩
      rcases i with _ | i
      · exact ⟨_, _, _, rfl, rfl, rfl, rfl, rfl, rfl⟩
      rcases i with _ | i
      · exact ⟨_, _, _, rfl, rfl, rfl, rfl, rfl, rfl⟩
      rcases i with _ | i
      · exact ⟨_, _, _, rfl, rfl, rfl, rfl, rfl, rfl⟩
      rcases i with _ | i
      · exact ⟨_, _, _, rfl, rfl, rfl, rfl, rfl, rfl⟩
      exact absurd hi (by simp)
    · cases h
    · iterate 4 refine Exists.intro _ (Exists.intro _ (And.intro rfl (And.intro rfl ?_)))
      rfl
  · refine ⟨⟨_, rfl, rfl, fun e h => ?_⟩, fun h => ?_, fun h => ?_, ⟨_, _, rfl, rfl, rfl, rfl, rfl, ?_⟩⟩
    · cases h
    · refine ⟨_, rfl, rfl, offs_all fun i hi => ?_⟩
      rcases i with _ | i
      · exact ⟨_, _, _, rfl, rfl, rfl, rfl, rfl, rfl⟩
      rcases i with _ | i
      · exact ⟨_, _, _, rfl, rfl, rfl, rfl, rfl, rfl⟩
      rcases i with _ | i
      · exact ⟨_, _, _, rfl, rfl, rfl, rfl, rfl, rfl⟩
      rcases i with _ | i
      · exact ⟨_, _, _, rfl, rfl, rfl, rfl, rfl, rfl⟩
      rcases i with _ | i
      · exact ⟨_, _, _, rfl, rfl, rfl, rfl, rfl, rfl⟩
      rcases i with _ | i
      · exact ⟨_, _, _, rfl, rfl, rfl, rfl, rfl, rfl⟩
      rcases i with _ | i
      · exact ⟨_, _, _, rfl, rfl, rfl, rfl, rfl, rfl⟩
      exact absurd hi (by simp)
    · cases h
    · iterate 7 refine Exists.intro _ (Exists.intro _ (And.intro rfl (And.intro rfl ?_)))
      rfl
  · refine ⟨⟨_, rfl, rfl, fun e h => ?_⟩, fun h => ?_, fun h => ?_, ⟨_, _, rfl, rfl, rfl, rfl, rfl, ?_⟩⟩
    · cases h
    · refine ⟨_, rfl, rfl, offs_all fun i hi => ?_⟩
      rcases i with _ | i
      · exact ⟨_, _, _, rfl, rfl, rfl, rfl, rfl, rfl⟩
      rcases i with _ | i
      · exact ⟨_, _, _, rfl, rfl, rfl, rfl, rfl, rfl⟩
      rcases i with _ | i
      · exact ⟨_, _, _, rfl, rfl, rfl, rfl, rfl, rfl⟩
      exact absurd hi (by simp)
    · cases h
    · iterate 3 refine Exists.intro _ (Exists.intro _ (And.intro rfl (And.intro rfl ?_)))
      rfl
  · refine ⟨⟨_, rfl, rfl, fun e h => ?_⟩, fun h => ?_, fun h => ?_, ⟨_, _, rfl, rfl, rfl, rfl, rfl, ?_⟩⟩
    · cases h
    · refine ⟨_, rfl, rfl, offs_all fun i hi => ?_⟩
      rcases i with _ | i
      · exact ⟨_, _, _, rfl, rfl, rfl, rfl, rfl, rfl⟩
      rcases i with _ | i
      · exact ⟨_, _, _, rfl, rfl, rfl, rfl, rfl, rfl⟩
      rcases i with _ | i
      · exact ⟨_, _, _, rfl, rfl, rfl, rfl, rfl, rfl⟩
      rcases i with _ | i
      · exact ⟨_, _, _, rfl, rfl, rfl, rfl, rfl, rfl⟩
      rcases i with _ | i
      · exact ⟨_, _, _, rfl, rfl, rfl, rfl, rfl, rfl⟩
      exact absurd hi (by simp)
    · cases h
    · iterate 5 refine Exists.intro _ (Exists.intro _ (And.intro rfl (And.intro rfl ?_)))
      rfl
  · refine ⟨⟨_, rfl, rfl, fun e h => ?_⟩, fun h => ?_, fun h => ?_, ⟨_, _, rfl, rfl, rfl, rfl, rfl, ?_⟩⟩
    · cases h
    · refine ⟨_, rfl, rfl, offs_all fun i hi => ?_⟩
      rcases i with _ | i
      · exact ⟨_, _, _, rfl, rfl, rfl, rfl, rfl, rfl⟩
      rcases i with _ | i
      · exact ⟨_, _, _, rfl, rfl, rfl, rfl, rfl, rfl⟩
      rcases i with _ | i
      · exact ⟨_, _, _, rfl, rfl, rfl, rfl, rfl, rfl⟩
      exact absurd hi (by simp)
    · cases h
    · iterate 3 refine Exists.intro _ (Exists.intro _ (And.intro rfl (And.intro rfl ?_)))
      rfl
  · refine ⟨⟨_, rfl, rfl, fun e h => ?_⟩, fun h => ?_, fun h => ?_, ⟨_, _, rfl, rfl, rfl, rfl, rfl, ?_⟩⟩
    · cases h
    · refine ⟨_, rfl, rfl, offs_all fun i hi => ?_⟩
      rcases i with _ | i
      · exact ⟨_, _, _, rfl, rfl, rfl, rfl, rfl, rfl⟩
      rcases i with _ | i
      · exact ⟨_, _, _, rfl, rfl, rfl, rfl, rfl, rfl⟩
      rcases i with _ | i
      · exact ⟨_, _, _, rfl, rfl, rfl, rfl, rfl, rfl⟩
      rcases i with _ | i
      · exact ⟨_, _, _, rfl, rfl, rfl, rfl, rfl, rfl⟩
      rcases i with _ | i
      · exact ⟨_, _, _, rfl, rfl, rfl, rfl, rfl, rfl⟩
      exact absurd hi (by simp)
    · cases h
    · iterate 16 refine Exists.intro _ (Exists.intro _ (And.intro rfl (And.intro rfl ?_)))
      rfl
end Ab
end Go.Proofs.YtlmjabnkjmfcmaaGreat
