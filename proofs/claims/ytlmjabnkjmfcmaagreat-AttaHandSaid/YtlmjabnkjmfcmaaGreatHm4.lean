/- A run on abstract values: slices.Clone and slices.Grow, as calls of the run. -/
import Derived.Test.YtlmjabnkjmfcmaaGreatHm3
import Derived.Laws.Cover3
import Derived.Deep.DeepCutAuto
namespace Go.Proofs.YtlmjabnkjmfcmaaGreat
open Go Go.RowKit Go.PlainAid
set_option linter.unusedVariables false
set_option linter.unusedSimpArgs false
set_option maxRecDepth 100000
namespace Ab
variable {lim lim' : Nat → Nat} {bs bs' : List Nat} {w w' : World} {P : Program} {T : Tab} {a : Act} {o : Oper} {m : Nat → Prop} {bx bx' : List (List AV)} {S S' : Slots} {K : Act → World → Prop} {Q : Exit → Act → World → Prop} {cal : Cal} {σ σ' σ1 σ2 : ASt}
/-- Where a call begins. -/
theorem enter_hold {args : List AV} {vs : List Value} {nt : Nat} (hl : vs.length = args.length) (H : Hold lim bs w bx (aS args vs) m) : Hold lim bs w bx (Sl (params [] 0 args) { tmps := vs.toArray ++ Array.replicate (nt - vs.toArray.size) undef, defers := [] }) m := by
  have hS : Sl (params [] 0 args) { tmps := vs.toArray ++ Array.replicate (nt - vs.toArray.size) undef, defers := [] } = aS args vs := by
    funext k
    unfold Sl aS
    rw [get_params]
    congr 1
    · by_cases hk : k < args.length
      · rw [if_pos ⟨by omega, by omega⟩]; simp
      · rw [if_neg (by omega)]
        simp [get, List.getD_eq_getElem?_getD, List.getElem?_eq_none (show args.length ≤ k by omega)]
    · simp only [Array.getD_eq_getD_getElem?, List.getD_eq_getElem?_getD]
      by_cases hk : k < vs.length
      · rw [Array.getElem?_append_left (by simpa using hk)]; simp
      · rw [Array.getElem?_append_right (by simpa using hk), List.getElem?_eq_none (by omega), Array.getElem?_replicate]
        split <;> rfl
  rw [hS]; exact H
theorem enter_size {vs : List Value} {nt : Nat} : nt ≤ (vs.toArray ++ Array.replicate (nt - vs.toArray.size) undef).size := by simp; omega
/-- A row of operations, by the run. -/
theorem ops_go (HT : TOK P T) (HC : CallsOK P cal) {i : Nat} {ops : Array Oper} {md : Md} (hd : ∀ o ∈ ops.toList, ∀ k, o.dst = some k → k < a.tmps.size) (H : Hold lim bs w σ.bx (Sl σ.tm a) m) (hm : ∀ b, w.heap.size ≤ b → m b) (h : runOps cal T ops.toList md ops.toList σ = some σ') (hK : KontB md.base m lim bs w a σ' (Q .normal)) : (Code.region i ops false).wp P Q a w :=
  wp_region_list (list_sound HT HC hd ops.toList (fun _ h => h) rfl H hm h hK)
theorem noCalls : CallsOK P (fun _ _ _ => none) := fun f args bx r bx' h => by cases h
def md0 : Md := ⟨[], [], 0⟩
theorem dst_lt {ops : List Oper} {n k : Nat} (h : (ops.all fun o => match o.dst with | some d => decide (d < n) | none => true) = true) (hn : n ≤ k) : ∀ o ∈ ops, ∀ d, o.dst = some d → d < k := by
  intro o ho d hd
  rw [List.all_eq_true] at h
  have := h o ho
  rw [hd] at this
  simp only [decide_eq_true_eq] at this
  exact Nat.lt_of_lt_of_le this hn
/-- One operation of a row, by the run. -/
theorem opx_go (HT : TOK P T) (HC : CallsOK P cal) {ops : Array Oper} {rest : List Oper} {md : Md} (hd : ∀ d, o.dst = some d → d < a.tmps.size) (H : Hold lim bs w σ.bx (Sl σ.tm a) m) (hm : ∀ b, w.heap.size ≤ b → m b) (h : aOpX cal T md ops.toList o σ = some σ') (hK : ∀ lim' bs' w' a', GoesB md.base m lim bs w a σ' lim' bs' w' a' → wpList P ops Q rest a' w') : wpList P ops Q (o :: rest) a w :=
  wpList_step fun K hK' => opX_sound HT HC H hm hd h (fun lim' bs' w' a' g => hK' a' w' (hK lim' bs' w' a' g))
theorem nil_row {u : Value} {e z : Nat} (H : Hold lim bs w bx (rS .nil u) m) : Hold lim bs w bx (rS (.row e z 0 []) u) m := by
  have h0 := H.slot 0
  have h0' : AV.R lim bs w .nil u := h0
  rw [AV.R] at h0'
  have ho : ∀ p g, Own w bs bx (rS (.row e z 0 []) u) p g → Own w bs bx (rS .nil u) p g := by
    intro p g hp
    cases p with
    | b i j => exact hp
    | t k =>
      obtain ⟨h1, h2⟩ := hp
      by_cases hk : k = 0
      · subst hk
        have h2' : u.ownBlock = some g := h2
        rw [h0'] at h2'; cases h2'
      · have : (rS (.row e z 0 []) u k).1 = .bad := by unfold rS; rw [if_neg hk]
        rw [this] at h1; cases h1
  refine ⟨H.len, H.nod, H.free, H.mb, H.box, fun k => ?_, fun k => ?_, H.top, fun p g hp => H.own p g (ho p g hp), fun p q g hp hq => H.dist p q g (ho p g hp) (ho q g hq)⟩
  · unfold rS
    split
    · show AV.R lim bs w (.row e z 0 []) u
      rw [AV.R]
      exact ⟨by simp, rfl, .inl ⟨h0', rfl⟩⟩
    · exact R_bad _
  · unfold rS
    split <;> rfl
theorem clone39 {n : Nat} {l : List AV} (hl : l.length = n * 2) (h1 : ones l = true) (h2 : AV.flats l = true) (hn : n ≤ 1000000) : CallOK Tryz.prog 39 [.sl n l] [] (.row 56 2 n l) [] := by
  refine ⟨⟨_, rfl, rfl, rfl⟩, Nat.le_refl _, fun lim bs w vs m hvl hm H => ?_⟩
  refine calls_of_wp rfl rfl ?_
  have H0 := enter_hold (nt := 8) hvl H
  have hsz : 8 ≤ (vs.toArray ++ Array.replicate (8 - vs.toArray.size) undef).size := enter_size
  refine wp_seq (ops_go (md := md0) tok noCalls (dst_lt (by rfl) hsz) (σ := ⟨[(0, .sl n l)], []⟩) (σ' := ⟨[(2, .nil), (0, .sl n l)], []⟩) H0 hm rfl fun lim1 bs1 w1 a1 g1 => ?_)
  have hs1 : 8 ≤ a1.tmps.size := by rw [g1.nt]; exact hsz
  have hbs : bs = [] := List.eq_nil_of_length_eq_zero (by rw [H.len]; rfl)
  have hv := g1.hold.slot 0
  rw [show (Sl _ a1 0).1 = AV.sl n l from rfl, AV.R] at hv
  obtain ⟨ad, c, hv, hnc, hl0⟩ := hv
  have hv' : a1.tmps.getD 0 undef = .slice ad n c := hv
  refine wp_seq (wp_seq (wp_region_list (wpList_step fun K hK => ?_)))
  show Oper.wp _ _ _ _ _ _
  refine wp_val (u := .slice ad n c) (w' := w1) ?_ (hK _ _ ?_)
  · unfold execOp
    simp [Act.eval, hv', -Array.getD_eq_getD_getElem?]
  refine wpList_step fun K hK => ?_
  show Oper.wp _ _ _ _ _ _
  refine wp_val (u := .bool ad.isNone) (w' := w1) ?_ (hK _ _ ?_)
  · unfold execOp
    have h3 : ((a1.put (some 3) (Value.slice ad n c)).tmps.getD 3 undef) = .slice ad n c := by
      have : 3 < a1.tmps.size := by omega
      simp [Act.put, this]
    simp [Act.eval, h3, -Array.getD_eq_getD_getElem?]
    have he : (Op.equal 25 (.slice ad n c) (.slice none 0 0)).run Tryz.prog w1 = .ok ad.isNone w1 := run_equalIn_slice_nil w1 _ 25 56 ad n c rfl
    simp [eqGuard, binOp, he]
  refine wpList_nil ?_
  obtain ⟨a2, ha2⟩ : ∃ a2, a2 = (a1.put (some 3) (Value.slice ad n c)).put (some 4) (.bool ad.isNone) := ⟨_, rfl⟩
  have H3 : Hold lim1 bs1 w1 [] (Sl [(4, .bool ad.isNone), (3, .bad), (2, .nil), (0, .sl n l)] a2) m := by
    rw [ha2]
    show Hold lim1 bs1 w1 [] (Sl (put (put [(2, .nil), (0, .sl n l)] 3 .bad) 4 (.bool ad.isNone)) _) m
    rw [Sl_put (by rw [put_size]; omega), Sl_put (by omega)]
    exact (g1.hold.put (R_bad _) rfl (fun g hh => by cases hh)).put (by rw [AV.R]) rfl (fun g hh => by cases hh)
  have hs2 : 8 ≤ a2.tmps.size := by rw [ha2, put_size, put_size]; exact hs1
  have hd2 : a2.defers = [] := by rw [ha2]; exact g1.df
  rw [← ha2]
  refine wp_cond (t := ad.isNone) (aeval_val (σ := ⟨[(4, .bool ad.isNone), (3, .bad), (2, .nil), (0, .sl n l)], []⟩) (.tmp 4) H3 rfl) ?_
  have hm1 : ∀ b, w1.heap.size ≤ b → m b := fun b hb => hm b (Nat.le_trans g1.fr.bel.size hb)
  cases ad with
  | none =>
    have hl1 : l = [] := by
      rcases hl0 with h | ⟨b, o, h, -⟩
      · exact h
      · cases h
    subst hl1
    have hn0 : n = 0 := by rw [List.length_nil] at hl; omega
    subst hn0
    refine wp_seq (ops_go (md := md0) tok noCalls (dst_lt (by rfl) hs2) (σ := ⟨[(4, .bool true), (3, .bad), (2, .nil), (0, .sl 0 [])], []⟩) (σ' := ⟨[(4, .bool true), (3, .bad), (2, .nil), (0, .sl 0 [])], []⟩) H3 hm1 rfl fun lim2 bs2 w2 a3 g2 => wp_ret ?_)
    obtain ⟨u, u1, u2⟩ := rets_sound (T := tyT) (n := 0) (fn := Tryz.f39) tok g2.hold (vs := [.nil]) rfl
    exact ⟨g2.df.trans hd2, u, u1, u, lim2, bs2, rfl, nil_row u2, g1.fr.trans g2.fr, fun i hi => by cases hi⟩
  | some ad =>
    refine wp_skip ?_
    refine wp_seq (wp_region_list (opx_go (md := md0) (σ := ⟨[(4, .bool false), (3, .bad), (2, .nil), (0, .sl n l)], []⟩) (σ' := ⟨[(5, .row 56 2 0 []), (4, .bool false), (3, .bad), (2, .nil), (0, .sl n l)], []⟩) tok noCalls (dst_lt (ops := [_]) (by rfl) hs2 _ List.mem_cons_self) H3 hm1 rfl fun lim2 bs2 w2 a3 g2 => ?_))
    have hs3 : 8 ≤ a3.tmps.size := by rw [g2.nt]; exact hs2
    have hm2 : ∀ b, w2.heap.size ≤ b → m b := fun b hb => hm1 b (Nat.le_trans g2.fr.bel.size hb)
    refine opx_go (md := md0) (σ' := ⟨[(6, .sl n l), (5, .row 56 2 0 []), (4, .bool false), (3, .bad), (2, .nil), (0, .sl n l)], []⟩) tok noCalls (dst_lt (ops := [_]) (by rfl) hs3 _ List.mem_cons_self) g2.hold hm2 rfl fun lim3 bs3 w3 a4 g3 => ?_
    have hs4 : 8 ≤ a4.tmps.size := by rw [g3.nt]; exact hs3
    have hm3 : ∀ b, w3.heap.size ≤ b → m b := fun b hb => hm2 b (Nat.le_trans g3.fr.bel.size hb)
    have hok : (true && decide (0 + n ≤ 100000000) && decide (l.length = n * 2) && decide (0 < 2) && decide (24 ≤ 1000) && ones l && AV.flats l) = true := by
      rw [h1, h2]
      simp only [Bool.and_true, Bool.true_and, Bool.and_eq_true, decide_eq_true_eq]
      exact ⟨⟨⟨by omega, hl⟩, by omega⟩, by omega⟩
    refine opx_go (md := md0) (σ' := ⟨[(7, .row 56 2 (0 + n) ([] ++ l)), (6, .sl n l), (5, .sl 0 []), (4, .bool false), (3, .bad), (2, .nil), (0, .sl n l)], []⟩) tok noCalls (dst_lt (ops := [_]) (by rfl) hs4 _ List.mem_cons_self) g3.hold hm3 (Eq.trans (show _ = if _ = true then some _ else none from rfl) (if_pos hok)) fun lim4 bs4 w4 a5 g4 => ?_
    have hs5 : 8 ≤ a5.tmps.size := by rw [g4.nt]; exact hs4
    have hm4 : ∀ b, w4.heap.size ≤ b → m b := fun b hb => hm3 b (Nat.le_trans g4.fr.bel.size hb)
    rw [Nat.zero_add, List.nil_append] at g4
    refine opx_go (md := md0) (σ := ⟨[(7, .row 56 2 n l), (6, .sl n l), (5, .sl 0 []), (4, .bool false), (3, .bad), (2, .nil), (0, .sl n l)], []⟩) (σ' := ⟨[(7, .sl n l), (6, .sl n l), (5, .sl 0 []), (4, .bool false), (3, .bad), (2, .row 56 2 n l), (0, .sl n l)], []⟩) tok noCalls (dst_lt (ops := [_]) (by rfl) hs5 _ List.mem_cons_self) g4.hold hm4 rfl fun lim5 bs5 w5 a6 g5 => ?_
    refine wpList_nil (wp_ret ?_)
    obtain ⟨u, u1, u2⟩ := rets_sound (T := tyT) (n := 0) (fn := Tryz.f39) tok g5.hold (vs := [.row 56 2 n l]) rfl
    exact ⟨g5.df.trans (g4.df.trans (g3.df.trans (g2.df.trans hd2))), u, u1, u, lim5, bs5, rfl, u2, g1.fr.trans (g2.fr.trans (g3.fr.trans (g4.fr.trans g5.fr))), fun i hi => by cases hi⟩
theorem clone40 {n : Nat} {l : List AV} (hl : l.length = n * 1) (h1 : ones l = true) (h2 : AV.flats l = true) (hn : n ≤ 1000000) : CallOK Tryz.prog 40 [.sl n l] [] (.row 9 1 n l) [] := by
  refine ⟨⟨_, rfl, rfl, rfl⟩, Nat.le_refl _, fun lim bs w vs m hvl hm H => ?_⟩
  refine calls_of_wp rfl rfl ?_
  have H0 := enter_hold (nt := 8) hvl H
  have hsz : 8 ≤ (vs.toArray ++ Array.replicate (8 - vs.toArray.size) undef).size := enter_size
  refine wp_seq (ops_go (md := md0) tok noCalls (dst_lt (by rfl) hsz) (σ := ⟨[(0, .sl n l)], []⟩) (σ' := ⟨[(2, .nil), (0, .sl n l)], []⟩) H0 hm rfl fun lim1 bs1 w1 a1 g1 => ?_)
  have hs1 : 8 ≤ a1.tmps.size := by rw [g1.nt]; exact hsz
  have hbs : bs = [] := List.eq_nil_of_length_eq_zero (by rw [H.len]; rfl)
  have hv := g1.hold.slot 0
  rw [show (Sl _ a1 0).1 = AV.sl n l from rfl, AV.R] at hv
  obtain ⟨ad, c, hv, hnc, hl0⟩ := hv
  have hv' : a1.tmps.getD 0 undef = .slice ad n c := hv
  refine wp_seq (wp_seq (wp_region_list (wpList_step fun K hK => ?_)))
  show Oper.wp _ _ _ _ _ _
  refine wp_val (u := .slice ad n c) (w' := w1) ?_ (hK _ _ ?_)
  · unfold execOp
    simp [Act.eval, hv', -Array.getD_eq_getD_getElem?]
  refine wpList_step fun K hK => ?_
  show Oper.wp _ _ _ _ _ _
  refine wp_val (u := .bool ad.isNone) (w' := w1) ?_ (hK _ _ ?_)
  · unfold execOp
    have h3 : ((a1.put (some 3) (Value.slice ad n c)).tmps.getD 3 undef) = .slice ad n c := by
      have : 3 < a1.tmps.size := by omega
      simp [Act.put, this]
    simp [Act.eval, h3, -Array.getD_eq_getD_getElem?]
    have he : (Op.equal 32 (.slice ad n c) (.slice none 0 0)).run Tryz.prog w1 = .ok ad.isNone w1 := run_equalIn_slice_nil w1 _ 32 9 ad n c rfl
    simp [eqGuard, binOp, he]
  refine wpList_nil ?_
  obtain ⟨a2, ha2⟩ : ∃ a2, a2 = (a1.put (some 3) (Value.slice ad n c)).put (some 4) (.bool ad.isNone) := ⟨_, rfl⟩
  have H3 : Hold lim1 bs1 w1 [] (Sl [(4, .bool ad.isNone), (3, .bad), (2, .nil), (0, .sl n l)] a2) m := by
    rw [ha2]
    show Hold lim1 bs1 w1 [] (Sl (put (put [(2, .nil), (0, .sl n l)] 3 .bad) 4 (.bool ad.isNone)) _) m
    rw [Sl_put (by rw [put_size]; omega), Sl_put (by omega)]
    exact (g1.hold.put (R_bad _) rfl (fun g hh => by cases hh)).put (by rw [AV.R]) rfl (fun g hh => by cases hh)
  have hs2 : 8 ≤ a2.tmps.size := by rw [ha2, put_size, put_size]; exact hs1
  have hd2 : a2.defers = [] := by rw [ha2]; exact g1.df
  rw [← ha2]
  refine wp_cond (t := ad.isNone) (aeval_val (σ := ⟨[(4, .bool ad.isNone), (3, .bad), (2, .nil), (0, .sl n l)], []⟩) (.tmp 4) H3 rfl) ?_
  have hm1 : ∀ b, w1.heap.size ≤ b → m b := fun b hb => hm b (Nat.le_trans g1.fr.bel.size hb)
  cases ad with
  | none =>
    have hl1 : l = [] := by
      rcases hl0 with h | ⟨b, o, h, -⟩
      · exact h
      · cases h
    subst hl1
    have hn0 : n = 0 := by rw [List.length_nil] at hl; omega
    subst hn0
    refine wp_seq (ops_go (md := md0) tok noCalls (dst_lt (by rfl) hs2) (σ := ⟨[(4, .bool true), (3, .bad), (2, .nil), (0, .sl 0 [])], []⟩) (σ' := ⟨[(4, .bool true), (3, .bad), (2, .nil), (0, .sl 0 [])], []⟩) H3 hm1 rfl fun lim2 bs2 w2 a3 g2 => wp_ret ?_)
    obtain ⟨u, u1, u2⟩ := rets_sound (T := tyT) (n := 0) (fn := Tryz.f40) tok g2.hold (vs := [.nil]) rfl
    exact ⟨g2.df.trans hd2, u, u1, u, lim2, bs2, rfl, nil_row u2, g1.fr.trans g2.fr, fun i hi => by cases hi⟩
  | some ad =>
    refine wp_skip ?_
    refine wp_seq (wp_region_list (opx_go (md := md0) (σ := ⟨[(4, .bool false), (3, .bad), (2, .nil), (0, .sl n l)], []⟩) (σ' := ⟨[(5, .row 9 1 0 []), (4, .bool false), (3, .bad), (2, .nil), (0, .sl n l)], []⟩) tok noCalls (dst_lt (ops := [_]) (by rfl) hs2 _ List.mem_cons_self) H3 hm1 rfl fun lim2 bs2 w2 a3 g2 => ?_))
    have hs3 : 8 ≤ a3.tmps.size := by rw [g2.nt]; exact hs2
    have hm2 : ∀ b, w2.heap.size ≤ b → m b := fun b hb => hm1 b (Nat.le_trans g2.fr.bel.size hb)
    refine opx_go (md := md0) (σ' := ⟨[(6, .sl n l), (5, .row 9 1 0 []), (4, .bool false), (3, .bad), (2, .nil), (0, .sl n l)], []⟩) tok noCalls (dst_lt (ops := [_]) (by rfl) hs3 _ List.mem_cons_self) g2.hold hm2 rfl fun lim3 bs3 w3 a4 g3 => ?_
    have hs4 : 8 ≤ a4.tmps.size := by rw [g3.nt]; exact hs3
    have hm3 : ∀ b, w3.heap.size ≤ b → m b := fun b hb => hm2 b (Nat.le_trans g3.fr.bel.size hb)
    have hok : (true && decide (0 + n ≤ 100000000) && decide (l.length = n * 1) && decide (0 < 1) && decide (16 ≤ 1000) && ones l && AV.flats l) = true := by
      rw [h1, h2]
      simp only [Bool.and_true, Bool.true_and, Bool.and_eq_true, decide_eq_true_eq]
      exact ⟨⟨⟨by omega, hl⟩, by omega⟩, by omega⟩
    refine opx_go (md := md0) (σ' := ⟨[(7, .row 9 1 (0 + n) ([] ++ l)), (6, .sl n l), (5, .sl 0 []), (4, .bool false), (3, .bad), (2, .nil), (0, .sl n l)], []⟩) tok noCalls (dst_lt (ops := [_]) (by rfl) hs4 _ List.mem_cons_self) g3.hold hm3 (Eq.trans (show _ = if _ = true then some _ else none from rfl) (if_pos hok)) fun lim4 bs4 w4 a5 g4 => ?_
    have hs5 : 8 ≤ a5.tmps.size := by rw [g4.nt]; exact hs4
    have hm4 : ∀ b, w4.heap.size ≤ b → m b := fun b hb => hm3 b (Nat.le_trans g4.fr.bel.size hb)
    rw [Nat.zero_add, List.nil_append] at g4
    refine opx_go (md := md0) (σ := ⟨[(7, .row 9 1 n l), (6, .sl n l), (5, .sl 0 []), (4, .bool false), (3, .bad), (2, .nil), (0, .sl n l)], []⟩) (σ' := ⟨[(7, .sl n l), (6, .sl n l), (5, .sl 0 []), (4, .bool false), (3, .bad), (2, .row 9 1 n l), (0, .sl n l)], []⟩) tok noCalls (dst_lt (ops := [_]) (by rfl) hs5 _ List.mem_cons_self) g4.hold hm4 rfl fun lim5 bs5 w5 a6 g5 => ?_
    refine wpList_nil (wp_ret ?_)
    obtain ⟨u, u1, u2⟩ := rets_sound (T := tyT) (n := 0) (fn := Tryz.f40) tok g5.hold (vs := [.row 9 1 n l]) rfl
    exact ⟨g5.df.trans (g4.df.trans (g3.df.trans (g2.df.trans hd2))), u, u1, u, lim5, bs5, rfl, u2, g1.fr.trans (g2.fr.trans (g3.fr.trans (g4.fr.trans g5.fr))), fun i hi => by cases hi⟩
theorem cloneN39 : CallOK Tryz.prog 39 [.nil] [] .nil [] := by
  refine ⟨⟨_, rfl, rfl, rfl⟩, Nat.le_refl _, fun lim bs w vs m hvl hm H => ?_⟩
  refine calls_of_wp rfl rfl ?_
  have H0 := enter_hold (nt := 8) hvl H
  have hsz : 8 ≤ (vs.toArray ++ Array.replicate (8 - vs.toArray.size) undef).size := enter_size
  refine wp_seq (ops_go (md := md0) tok noCalls (dst_lt (by rfl) hsz) (σ := ⟨[(0, .nil)], []⟩) (σ' := ⟨[(2, .nil), (0, .nil)], []⟩) H0 hm rfl fun lim1 bs1 w1 a1 g1 => ?_)
  have hs1 : 8 ≤ a1.tmps.size := by rw [g1.nt]; exact hsz
  have hv := g1.hold.slot 0
  rw [show (Sl _ a1 0).1 = AV.nil from rfl, AV.R] at hv
  have hv' : a1.tmps.getD 0 undef = .slice none 0 0 := hv
  refine wp_seq (wp_seq (wp_region_list (wpList_step fun K hK => ?_)))
  show Oper.wp _ _ _ _ _ _
  refine wp_val (u := .slice none 0 0) (w' := w1) ?_ (hK _ _ ?_)
  · unfold execOp
    simp [Act.eval, hv', -Array.getD_eq_getD_getElem?]
  refine wpList_step fun K hK => ?_
  show Oper.wp _ _ _ _ _ _
  refine wp_val (u := .bool true) (w' := w1) ?_ (hK _ _ ?_)
  · unfold execOp
    have h3 : ((a1.put (some 3) (Value.slice none 0 0)).tmps.getD 3 undef) = .slice none 0 0 := by
      have : 3 < a1.tmps.size := by omega
      simp [Act.put, this]
    simp [Act.eval, h3, -Array.getD_eq_getD_getElem?]
    have he : (Op.equal 25 (.slice none 0 0) (.slice none 0 0)).run Tryz.prog w1 = .ok true w1 := run_equalIn_slice_nil w1 _ 25 56 none 0 0 rfl
    simp [eqGuard, binOp, he]
  refine wpList_nil ?_
  obtain ⟨a2, ha2⟩ : ∃ a2, a2 = (a1.put (some 3) (Value.slice none 0 0)).put (some 4) (.bool true) := ⟨_, rfl⟩
  have H3 : Hold lim1 bs1 w1 [] (Sl [(4, .bool true), (3, .bad), (2, .nil), (0, .nil)] a2) m := by
    rw [ha2]
    show Hold lim1 bs1 w1 [] (Sl (put (put [(2, .nil), (0, .nil)] 3 .bad) 4 (.bool true)) _) m
    rw [Sl_put (by rw [put_size]; omega), Sl_put (by omega)]
    exact (g1.hold.put (R_bad _) rfl (fun g hh => by cases hh)).put (by rw [AV.R]) rfl (fun g hh => by cases hh)
  have hs2 : 8 ≤ a2.tmps.size := by rw [ha2, put_size, put_size]; exact hs1
  have hd2 : a2.defers = [] := by rw [ha2]; exact g1.df
  rw [← ha2]
  refine wp_cond (t := true) (aeval_val (σ := ⟨[(4, .bool true), (3, .bad), (2, .nil), (0, .nil)], []⟩) (.tmp 4) H3 rfl) ?_
  have hm1 : ∀ b, w1.heap.size ≤ b → m b := fun b hb => hm b (Nat.le_trans g1.fr.bel.size hb)
  refine wp_seq (ops_go (md := md0) tok noCalls (dst_lt (by rfl) hs2) (σ := ⟨[(4, .bool true), (3, .bad), (2, .nil), (0, .nil)], []⟩) (σ' := ⟨[(4, .bool true), (3, .bad), (2, .nil), (0, .nil)], []⟩) H3 hm1 rfl fun lim2 bs2 w2 a3 g2 => wp_ret ?_)
  obtain ⟨u, u1, u2⟩ := rets_sound (T := tyT) (n := 0) (fn := Tryz.f39) tok g2.hold (vs := [.nil]) rfl
  exact ⟨g2.df.trans hd2, u, u1, u, lim2, bs2, rfl, u2, g1.fr.trans g2.fr, fun i hi => by cases hi⟩
theorem cloneN40 : CallOK Tryz.prog 40 [.nil] [] .nil [] := by
  refine ⟨⟨_, rfl, rfl, rfl⟩, Nat.le_refl _, fun lim bs w vs m hvl hm H => ?_⟩
  refine calls_of_wp rfl rfl ?_
  have H0 := enter_hold (nt := 8) hvl H
  have hsz : 8 ≤ (vs.toArray ++ Array.replicate (8 - vs.toArray.size) undef).size := enter_size
  refine wp_seq (ops_go (md := md0) tok noCalls (dst_lt (by rfl) hsz) (σ := ⟨[(0, .nil)], []⟩) (σ' := ⟨[(2, .nil), (0, .nil)], []⟩) H0 hm rfl fun lim1 bs1 w1 a1 g1 => ?_)
  have hs1 : 8 ≤ a1.tmps.size := by rw [g1.nt]; exact hsz
  have hv := g1.hold.slot 0
  rw [show (Sl _ a1 0).1 = AV.nil from rfl, AV.R] at hv
  have hv' : a1.tmps.getD 0 undef = .slice none 0 0 := hv
  refine wp_seq (wp_seq (wp_region_list (wpList_step fun K hK => ?_)))
  show Oper.wp _ _ _ _ _ _
  refine wp_val (u := .slice none 0 0) (w' := w1) ?_ (hK _ _ ?_)
  · unfold execOp
    simp [Act.eval, hv', -Array.getD_eq_getD_getElem?]
  refine wpList_step fun K hK => ?_
  show Oper.wp _ _ _ _ _ _
  refine wp_val (u := .bool true) (w' := w1) ?_ (hK _ _ ?_)
  · unfold execOp
    have h3 : ((a1.put (some 3) (Value.slice none 0 0)).tmps.getD 3 undef) = .slice none 0 0 := by
      have : 3 < a1.tmps.size := by omega
      simp [Act.put, this]
    simp [Act.eval, h3, -Array.getD_eq_getD_getElem?]
    have he : (Op.equal 32 (.slice none 0 0) (.slice none 0 0)).run Tryz.prog w1 = .ok true w1 := run_equalIn_slice_nil w1 _ 32 9 none 0 0 rfl
    simp [eqGuard, binOp, he]
  refine wpList_nil ?_
  obtain ⟨a2, ha2⟩ : ∃ a2, a2 = (a1.put (some 3) (Value.slice none 0 0)).put (some 4) (.bool true) := ⟨_, rfl⟩
  have H3 : Hold lim1 bs1 w1 [] (Sl [(4, .bool true), (3, .bad), (2, .nil), (0, .nil)] a2) m := by
    rw [ha2]
    show Hold lim1 bs1 w1 [] (Sl (put (put [(2, .nil), (0, .nil)] 3 .bad) 4 (.bool true)) _) m
    rw [Sl_put (by rw [put_size]; omega), Sl_put (by omega)]
    exact (g1.hold.put (R_bad _) rfl (fun g hh => by cases hh)).put (by rw [AV.R]) rfl (fun g hh => by cases hh)
  have hs2 : 8 ≤ a2.tmps.size := by rw [ha2, put_size, put_size]; exact hs1
  have hd2 : a2.defers = [] := by rw [ha2]; exact g1.df
  rw [← ha2]
  refine wp_cond (t := true) (aeval_val (σ := ⟨[(4, .bool true), (3, .bad), (2, .nil), (0, .nil)], []⟩) (.tmp 4) H3 rfl) ?_
  have hm1 : ∀ b, w1.heap.size ≤ b → m b := fun b hb => hm b (Nat.le_trans g1.fr.bel.size hb)
  refine wp_seq (ops_go (md := md0) tok noCalls (dst_lt (by rfl) hs2) (σ := ⟨[(4, .bool true), (3, .bad), (2, .nil), (0, .nil)], []⟩) (σ' := ⟨[(4, .bool true), (3, .bad), (2, .nil), (0, .nil)], []⟩) H3 hm1 rfl fun lim2 bs2 w2 a3 g2 => wp_ret ?_)
  obtain ⟨u, u1, u2⟩ := rets_sound (T := tyT) (n := 0) (fn := Tryz.f40) tok g2.hold (vs := [.nil]) rfl
  exact ⟨g2.df.trans hd2, u, u1, u, lim2, bs2, rfl, u2, g1.fr.trans g2.fr, fun i hi => by cases hi⟩
end Ab
end Go.Proofs.YtlmjabnkjmfcmaaGreat
/- A run on abstract values: slices.Grow onto nil. -/
namespace Go.Proofs.YtlmjabnkjmfcmaaGreat
open Go Go.RowKit Go.PlainAid
set_option linter.unusedVariables false
/-- append of so many empty comments to nil. -/
theorem app_mk {ops : Array Oper} {rest : List Oper} {o : Oper} {a : Act} {Q : Exit → Act → World → Prop} {w : World} (hgd : o.guard = none) (s x : Operand)
    (ho : o.op = .call { callee := .builtin .append, args := #[s, x], argTypes := #[25, 3] }) (n : Nat) (hs : a.eval s = .slice none 0 0) (hx : a.eval x = .int .i64 n) (h0 : 0 < n) (hn : n ≤ 100000)
    (h : ∀ (c : Nat) (cs : Array Value), cs.size = c * 2 → n ≤ c → c ≤ maxLen → wpList Tryz.prog ops Q rest (a.put o.dst (.slice (some ⟨w.heap.size, 0, none⟩) n c)) (w.drew.alloc (.cells cs 56))) :
    wpList Tryz.prog ops Q (o :: rest) a w := by
  obtain ⟨i0, hi, hz0, hz1, hz2⟩ := info_parts Tryz.info56
  refine wpList_step fun K hK => ?_
  rw [if_pos (by simp [Region.wanted, hgd])]
  have hr := Lib.run_append_nil_zeros (P := Tryz.prog) w 25 3 o.type 56 i0 _ .i64 .i64 Tryz.underlying25 Tryz.underlying3 hi hz0 n h0 (by rw [hz1]; omega) (by omega) (by rw [hz2]; omega)
  have hge := grownCap_ge w n 0 56
  have hml : n ≤ maxLen := by
    have : (100000 : Nat) ≤ maxLen := by decide
    omega
  unfold Oper.wp execOp
  simp only [ho, resolve, invoke, builtin, Sem.run_bind, Sem.run_pure, Result.andThen_ok, List.map_toArray, List.map_cons, List.map_nil, hs, hx, hr]
  refine hK _ _ (h _ _ ?_ hge (grownCap_le_maxLen w n 0 56 hml))
  simp only [Array.size_append, size_zeroCells]
  show n * 2 + (_ - n) * 2 = _
  omega
set_option maxHeartbeats 8000000 in
theorem grow_any (n : Nat) (w : World) (hn : n ≤ 100000) :
    Calls Tryz.prog 73 #[.slice none 0 0, .int .i64 n] w fun e w' => (n = 0 ∧ e = .returned (.slice none 0 0) ∧ w = w') ∨ (0 < n ∧ ∃ (c : Nat) (cs : Array Value), e = .returned (.slice (some ⟨w.heap.size, 0, none⟩) 0 c) ∧ w' = w.drew.alloc (.cells cs 56) ∧ cs.size = c * 2 ∧ c ≤ maxLen) := by
  have hneg : ¬ ((n : Int) < 0) := by omega
  by_cases h0 : n = 0
  · subst h0
    refine Calls.mono (R := fun e w' => e = .returned (.slice none 0 0) ∧ w = w') ?_ (fun e w' h => .inl ⟨rfl, h.1, h.2⟩)
    go_enter Tryz.func73, Tryz.ntmps73
    go_wp2_with fail
    go_ret
    exact ⟨rfl, rfl⟩
  · have hp : (0 : Int) < n := by omega
    refine Calls.mono (R := fun e w' => ∃ (c : Nat) (cs : Array Value), e = .returned (.slice (some ⟨w.heap.size, 0, none⟩) 0 c) ∧ w' = w.drew.alloc (.cells cs 56) ∧ cs.size = c * 2 ∧ c ≤ maxLen) ?_ (fun e w' h => .inr ⟨by omega, h⟩)
    go_enter Tryz.func73, Tryz.ntmps73
    go_wp2_with (at_builtin; refine app_mk rfl (.tmp 20) (.tmp 21) rfl n rfl rfl (by omega) hn ?_; intro c cs h1 h2 h3)
    go_ret
    exact ⟨c, rfl, cs, rfl, h1, h3⟩
namespace Ab
/-- What is handed back where there are no boxes. -/
theorem Hold.res {lim : Nat → Nat} {w : World} {r : AV} {u : Value} {m : Nat → Prop} (ht : ∀ b, w.heap.size ≤ b → lim b = 0) (hR : AV.R lim [] w r u) (hr : r.top = true) (hg : ∀ g, r.isRow = true → u.ownBlock = some g → m g) : Hold lim [] w [] (rS r u) m := by
  have hk : ∀ k g, Own w [] [] (rS r u) (.t k) g → k = 0 ∧ r.isRow = true ∧ u.ownBlock = some g := by
    intro k g hp
    obtain ⟨p1, p2⟩ := hp
    unfold rS at p1 p2
    split at p1
    · rename_i hk
      rw [if_pos hk] at p2
      exact ⟨hk, p1, p2⟩
    · cases p1
  have hb : ∀ i j g, ¬ Own w [] [] (rS r u) (.b i j) g := by
    rintro i j g ⟨b, x, y, v, p1, -⟩
    simp at p1
  refine ⟨rfl, List.nodup_nil, (fun b hb => by cases hb), (fun b hb => by cases hb), (fun i b x hi => by simp at hi), fun k => ?_, fun k => ?_, ht, fun p g hp => ?_, fun p q g hp hq => ?_⟩
  · unfold rS
    split
    · exact hR
    · exact R_bad _
  · unfold rS
    split
    · exact hr
    · rfl
  · cases p with
    | t k =>
      obtain ⟨-, h1, h2⟩ := hk k g hp
      exact ⟨hg g h1 h2, fun hb => by cases hb⟩
    | b i j => exact absurd hp (hb i j g)
  · cases p with
    | t k =>
      cases q with
      | t k2 => rw [(hk k g hp).1, (hk k2 g hq).1]
      | b i j => exact absurd hq (hb i j g)
    | b i j => exact absurd hp (hb i j g)
theorem Rs_slots {lim : Nat → Nat} {bs : List Nat} {w : World} {m : Nat → Prop} {bx : List (List AV)} {args : List AV} {vs : List Value} (hl : vs.length = args.length) (H : Hold lim bs w bx (aS args vs) m) : AV.Rs lim bs w args vs := by
  refine Rs_of_get hl fun i x v hx hv => ?_
  have h := H.slot i
  have h' : AV.R lim bs w (args.getD i .bad) (vs.getD i undef) := h
  rw [List.getD_eq_getElem?_getD, List.getD_eq_getElem?_getD, hx, hv] at h'
  exact h'
set_option maxRecDepth 100000 in
theorem grow73 (n : Nat) (hn : n ≤ 100000) : CallOK Tryz.prog 73 [.nil, .int .i64 n] [] (if n = 0 then .nil else .row 56 2 0 []) [] := by
  refine ⟨⟨_, rfl, rfl, rfl⟩, Nat.le_refl _, fun lim bs w vs m hvl hm H => ?_⟩
  have hbs : bs = [] := List.eq_nil_of_length_eq_zero (by rw [H.len]; rfl)
  subst hbs
  have hvs : vs = [.slice none 0 0, .int .i64 n] := by
    have h := Rs_slots hvl H
    simp only [AV.Rs, AV.R] at h
    obtain ⟨v, r, rfl, rfl, v2, r2, rfl, rfl, rfl⟩ := h
    rfl
  subst hvs
  refine (grow_any n w hn).mono ?_
  rintro e w' (⟨h0, rfl, rfl⟩ | ⟨h0, c, cs, rfl, rfl, h1, h2⟩)
  · rw [if_pos h0]
    exact ⟨_, lim, [], rfl, Hold.res H.top (by rw [AV.R]) rfl (fun g hh => by cases hh), Fr.refl, fun i hi => rfl⟩
  · rw [if_neg (by omega)]
    have hs : (w.drew.alloc (.cells cs 56)).heap.size = w.heap.size + 1 := by simp
    have hfr : Fr m lim w lim (w.drew.alloc (.cells cs 56)) := by
      have hold : ∀ b, b < w.heap.size → (w.drew.alloc (.cells cs 56)).heap[b]? = w.heap[b]? := fun b hb => heap_alloc_old w.drew _ hb
      exact ⟨((Below.refl 0 w).drew).alloc (Nat.zero_le _) _, fun b hb _ => ⟨hold b hb, rfl⟩, fun _ _ => Nat.le_refl _, fun b j hb _ => World.cell?_of_block (hold b hb), fun b cur e p h => ⟨cur, (hold b (lt_of_heap h)).trans h, rfl⟩⟩
    refine ⟨_, lim, [], rfl, Hold.res (fun b hb => H.top b (by omega)) (row_R (V := cs) (Nat.zero_mul _).symm rfl (heap_alloc_new w.drew _) (Nat.zero_le _) h2 h1 (H.top _ (Nat.le_refl _)) ⟨[], by rw [AV.Rs], by rw [Nat.zero_mul, List.take_zero]⟩) rfl (fun g _ hg => ?_), hfr, fun i hi => rfl⟩
    have hg' : w.heap.size = g := by simpa [Value.ownBlock] using hg
    exact hm _ (by omega)
end Ab
end Go.Proofs.YtlmjabnkjmfcmaaGreat
/- between, Skip, Within of the reference: contracts. -/
namespace Go.Proofs.YtlmjabnkjmfcmaaGreat
open Go Go.RowKit Go.PlainAid
set_option linter.unusedVariables false
open Bk (Cm)
theorem COwn.slice2 {B : Nat} {v : Value} {l : List Cm} {w : World} (h : COwn B v l w) : ∃ a cp, v = .slice a l.length cp ∧ CSl w (fun i => B ≤ i) l a ∧ l.length ≤ cp := by
  obtain ⟨a, cp, hv, hs⟩ := h.slice
  refine ⟨a, cp, hv, hs, ?_⟩
  rcases h.2 with ⟨hv2, h0⟩ | ⟨g, cap, cur, hv2, hg, hgb, hn, hm, hs, ht⟩
  · omega
  · rw [hv] at hv2; cases hv2; exact hn
/-- What is handed back of what stands between. -/
def BtwPost (r : Option (List Cm × Bool × Nat)) (w : World) (e : Ending) (w' : World) : Prop :=
  match r with
  | some (l, same, p) => (∃ a cp, e = .returned (.tuple #[.slice a l.length cp, .bool same, .int .i64 p, .int .i64 0]) ∧ CSl w' (fun i => w.heap.size ≤ i) l a ∧ l.length ≤ cp) ∧ Below w.heap.size w w'
  | none => (∃ p c : Int, e = .returned (.tuple #[.slice none 0 0, .bool false, .int .i64 p, .int .i64 c]) ∧ (c = 4 ∨ c = 5)) ∧ Below w.heap.size w w'
theorem btw_some {r : Option (List Cm × Bool × Nat)} {l : List Cm} {same : Bool} {p n cp : Nat} {a : Option Addr} {w w' : World} (hr : r = some (l, same, p)) (hn : n = l.length) (hs : CSl w' (fun i => w.heap.size ≤ i) l a ∧ l.length ≤ cp) (hb : Below w.heap.size w w') :
    BtwPost r w (.returned (.tuple #[.slice a n cp, .bool same, .int .i64 p, .int .i64 0])) w' := by subst hr hn; exact ⟨⟨a, cp, rfl, hs⟩, hb⟩
theorem btw_none {r : Option (List Cm × Bool × Nat)} {p c : Int} {w w' : World} (hr : r = none) (hc : c = 4 ∨ c = 5) (hb : Below w.heap.size w w') :
    BtwPost r w (.returned (.tuple #[.slice none 0 0, .bool false, .int .i64 p, .int .i64 c])) w' := by subst hr; exact ⟨⟨p, c, rfl, hc⟩, hb⟩
set_option maxRecDepth 100000 in
set_option maxHeartbeats 100000000 in
theorem between_any (s : ByteArray) (q : Nat) (n : Int) (wi : Bool) (w : World) (hs : s.size ≤ 1000000) (hq : q ≤ s.size) :
    Calls Tryz.prog 60 #[.string s, .int .i64 q, .int .i64 n, .bool wi] w (BtwPost (Bk.btwS s q n wi) w) := by
  have hb := get_bt s
  have hh : Bk.heldN s (q : Int) = q := by unfold Bk.heldN; omega
  obtain ⟨R, hR⟩ : ∃ R, R = Bk.btwS s q n wi := ⟨_, rfl⟩
  rw [← hR]
  obtain ⟨m0, hm0⟩ : ∃ m0, m0 = decide (q = Bk.fromN s q) := ⟨_, rfl⟩
  obtain ⟨f0, hf0⟩ : ∃ f0, f0 = Bk.fromN s q := ⟨_, rfl⟩
  obtain ⟨t0, ht0⟩ : ∃ t0, t0 = Bk.toN s q := ⟨_, rfl⟩
  have HR : Hid (R = Bk.btwL s q n wi (s.size + 1) q m0 f0 [] false) := Lib.hid (by rw [hR, hm0, hf0]; rfl)
  have hm0' : m0 = decide (q = f0) := by rw [hm0, hf0]
  have hmm : ((q : Int) == (f0 : Int)) = m0 := by
    rw [hm0', Bool.eq_iff_iff]; simp; omega
  have HF0 := Lib.hid hf0
  have HT0 := Lib.hid ht0
  have HH := Lib.hid hh
  have hmx : max 0 (min (q : Int) (s.size : Int)) = q := by omega
  clear hR hm0 hf0 ht0 hh hm0'
  go_enter Tryz.func60, Tryz.ntmps60
  go_wp2_with (go_at_call 32; refine (rrow_any s _ _ (by omega)).mono ?_; rintro e w' ⟨rfl, rfl⟩; rw [HH.out, ← HF0.out, ← HT0.out])
  have HV0 := Lib.hid (cown_nil w.heap.size w)
  have HW0 := Lib.hid (Below.refl w.heap.size w)
  go_loopg [12, 13, 14, 15, 16, 17] (s.size - q) (fun g v row tt same p met wr => ∃ (l : List Cm) (rw' : Nat) (t' : Int) (sm : Bool) (k : Nat) (mt : Bool) (f : Nat), g = s.size - k ∧ k ≤ s.size ∧ s.size + 1 ≤ k + f ∧ l.length ≤ k ∧ row = .int .i64 rw' ∧ tt = .int .i64 t' ∧ same = .bool sm ∧ p = .int .i64 k ∧ met = .bool mt ∧ Hid (R = Bk.btwL s q n wi f k mt rw' l sm) ∧ Hid (COwn w.heap.size v l wr) ∧ Hid (Below w.heap.size w wr))
  case atStart => exact ⟨[], f0, t0, false, q, m0, s.size + 1, rfl, hq, by omega, by show 0 ≤ q; omega, rfl, rfl, rfl, rfl, rfl, HR, HV0, HW0⟩
  case round =>
    obtain ⟨l, row, tt, same, p, met, f, rfl, hp, hf, hlp, rfl, rfl, rfl, rfl, rfl, HRR, HV, HW⟩ := hrel
    obtain ⟨av, cv, hv, hsl⟩ := HV.out.slice2
    subst hv
    have HSL := Lib.hid hsl
    obtain ⟨L, hL⟩ : ∃ L, L = l.length := ⟨_, rfl⟩
    rw [← hL] at hlp HV ⊢
    have HLL := Lib.hid hL
    have HV2 : Hid (COwn w.heap.size (.slice av L cv) l wr) := HV
    clear hsl hL
    by_cases hlt : p < s.size
    · obtain ⟨f, rfl⟩ : ∃ g, f = g + 1 := ⟨f - 1, by omega⟩
      obtain ⟨fp, hfp⟩ : ∃ fp, fp = Bk.fromN s p := ⟨_, rfl⟩
      obtain ⟨tp, htp⟩ : ∃ tp, tp = Bk.toN s p := ⟨_, rfl⟩
      have hfle := Bk.fromN_le s p
      have htge := Bk.toN_ge s p
      have htle := Bk.toN_le (s := s) (k := p) (by omega)
      rw [← hfp] at hfle
      rw [← htp] at htge htle
      have hhp : Bk.heldN s (p : Int) = p := by unfold Bk.heldN; omega
      have HHP := Lib.hid hhp
      have HFP := Lib.hid hfp
      have HTP := Lib.hid htp
      have HFT : Hid (fp ≤ tp) := Lib.hid (by omega)
      have HTZ : Hid (tp ≤ s.size) := Lib.hid htle
      clear hfp htp hhp
      go_upto_if 41 with fail
      go_cut [13, 14, 17] (fun rowv ttv metv wx => wr = wx ∧ ∃ (rw2 : Nat) (t' : Int), rowv = .int .i64 rw2 ∧ ttv = .int .i64 t' ∧ metv = .bool false ∧ Hid (R = if Bk.whiteB (bt s p) = true then Bk.btwL s q n wi f (p + 1) false rw2 l same
        else if bt s p = 10 then Bk.btwL s q n wi f (p + 1) true rw2 l same
        else if Bk.noteB s p = true then Bk.btwL s q n wi f tp false rw2 (l ++ [Bk.cmAt s p]) (if L = 0 then decide (f0 ≠ q) && decide (f0 = rw2) else same)
        else some (l, same, p)))
      case first =>
        cases met with
        | false =>
          have H2 : Hid (R = if Bk.whiteB (bt s p) = true then Bk.btwL s q n wi f (p + 1) false row l same
            else if bt s p = 10 then Bk.btwL s q n wi f (p + 1) true row l same
            else if Bk.noteB s p = true then Bk.btwL s q n wi f tp false row (l ++ [Bk.cmAt s p]) (if L = 0 then decide (f0 ≠ q) && decide (f0 = row) else same)
            else some (l, same, p)) := Lib.hid (by rw [HRR.out, Bk.btwL, if_pos hlt, HF0.out, HLL.out, HTP.out]; simp)
          go_wp2_with fail
          go_meet
          exact ⟨rfl, row, tt, rfl, rfl, rfl, H2⟩
        | true =>
          obtain ⟨K, hK⟩ : ∃ K, Bk.kindN s p = K := ⟨_, rfl⟩
          have HKP := Lib.hid hK
          by_cases hK34 : K = 3 ∨ K = 4
          · have hr : R = (if wi = true ∧ p ≠ q then none else some (l, same, p)) := by rw [HRR.out, Bk.btwL, if_pos hlt, if_pos ⟨rfl, by rw [hK]; exact hK34⟩]
            clear hK
            cases wi with
            | false =>
              have HE : Hid (R = some (l, same, p)) := Lib.hid (by rw [hr]; rfl)
              clear hr
              rcases hK34 with rfl | rfl
              all_goals
                go_wp2_with first
                  | (go_at_call 32; (with_reducible refine (rrow_any s p _ (by omega)).mono ?_); rintro e w' ⟨rfl, rfl⟩; rw [HHP.out, ← HFP.out, ← HTP.out])
                  | (go_at_call 30; refine (rkind_any s _ _ (by omega)).mono ?_; rintro e w' ⟨rfl, rfl⟩; rw [HHP.out, HKP.out])
                (try simp only [Exit.inBlock, Exit.then])
                refine bodyPost_ret (results_tmp4 rfl _ _ _) rfl ?_
                exact btw_some HE.out HLL.out HSL.out HW.out
            | true =>
              by_cases hpq : p = q
              · have HE : Hid (R = some (l, same, p)) := Lib.hid (by rw [hr, if_neg (fun h => h.2 hpq)])
                have e1 : ((p : Int) != (q : Int)) = false := by simp; omega
                clear hr hpq
                rcases hK34 with rfl | rfl
                all_goals
                  go_wp2_with first
                    | (go_at_call 32; (with_reducible refine (rrow_any s p _ (by omega)).mono ?_); rintro e w' ⟨rfl, rfl⟩; rw [HHP.out, ← HFP.out, ← HTP.out])
                    | (go_at_call 30; refine (rkind_any s _ _ (by omega)).mono ?_; rintro e w' ⟨rfl, rfl⟩; rw [HHP.out, HKP.out])
                  (try simp only [Exit.inBlock, Exit.then])
                  refine bodyPost_ret (results_tmp4 rfl _ _ _) rfl ?_
                  exact btw_some HE.out HLL.out HSL.out HW.out
              · have HE : Hid (R = none) := Lib.hid (by rw [hr, if_pos ⟨rfl, hpq⟩])
                have e1 : ((p : Int) != (q : Int)) = true := by simp; omega
                clear hr hpq
                rcases hK34 with rfl | rfl
                all_goals
                  go_wp2_with first
                    | (go_at_call 32; (with_reducible refine (rrow_any s p _ (by omega)).mono ?_); rintro e w' ⟨rfl, rfl⟩; rw [HHP.out, ← HFP.out, ← HTP.out])
                    | (go_at_call 30; refine (rkind_any s _ _ (by omega)).mono ?_; rintro e w' ⟨rfl, rfl⟩; rw [HHP.out, HKP.out])
                  (try simp only [Exit.inBlock, Exit.then])
                  refine bodyPost_ret (results_tmp4 rfl _ _ _) rfl ?_
                  exact btw_none HE.out (.inr rfl) HW.out
          · by_cases hK5 : K = 5
            · subst hK5
              cases wi with
              | false =>
                obtain ⟨tb, htb⟩ : ∃ tb, Bk.tabI s fp tp = tb := ⟨_, rfl⟩
                have HTB := Lib.hid htb
                by_cases htb0 : 0 ≤ tb
                · have HE : Hid (R = none) := Lib.hid (by rw [HRR.out, Bk.btwL, if_pos hlt, if_neg (by rw [hK]; exact fun h => by omega), if_pos ⟨rfl, hK, rfl, by rw [← HFP.out, ← HTP.out, htb]; exact htb0⟩])
                  clear hK htb
                  go_wp2_with first
                    | (go_at_call 32; (with_reducible refine (rrow_any s p _ (by omega)).mono ?_); rintro e w' ⟨rfl, rfl⟩; rw [HHP.out, ← HFP.out, ← HTP.out])
                    | (go_at_call 30; refine (rkind_any s _ _ (by omega)).mono ?_; rintro e w' ⟨rfl, rfl⟩; rw [HHP.out, HKP.out])
                    | (go_at_call 87; refine (tab_any s fp tp _ (by omega) HFT.out HTZ.out).mono ?_; rintro e w' ⟨rfl, rfl⟩; rw [HTB.out])
                  (try simp only [Exit.inBlock, Exit.then])
                  refine bodyPost_ret (results_tmp4 rfl _ _ _) rfl ?_
                  exact btw_none HE.out (.inl rfl) HW.out
                · have hn1 : ¬ (true = true ∧ (Bk.kindN s p = 3 ∨ Bk.kindN s p = 4)) := by rw [hK]; omega
                  have hn2 : ¬ (true = true ∧ Bk.kindN s p = 5 ∧ false = false ∧ 0 ≤ Bk.tabI s (Bk.fromN s p) (Bk.toN s p)) := by rw [← HFP.out, ← HTP.out, htb]; exact fun h => htb0 h.2.2.2
                  have hn3 : ¬ (true = true ∧ Bk.kindN s p = 5 ∧ false = true ∧ p ≠ q ∧ (Bk.inN s p : Int) ≤ n) := fun h => by cases h.2.2.1
                  have H2 : Hid (R = if Bk.whiteB (bt s p) = true then Bk.btwL s q n false f (p + 1) false fp l same
                    else if bt s p = 10 then Bk.btwL s q n false f (p + 1) true fp l same
                    else if Bk.noteB s p = true then Bk.btwL s q n false f tp false fp (l ++ [Bk.cmAt s p]) (if L = 0 then decide (f0 ≠ q) && decide (f0 = fp) else same)
                    else some (l, same, p)) := Lib.hid (by rw [HRR.out, Bk.btwL, if_pos hlt, HF0.out, HLL.out, HTP.out]; rw [if_neg hn1, if_neg hn2, if_neg hn3, if_pos rfl, ← HFP.out])
                  clear hK htb hn1 hn2 hn3
                  go_wp2_with first
                    | (go_at_call 32; (with_reducible refine (rrow_any s p _ (by omega)).mono ?_); rintro e w' ⟨rfl, rfl⟩; rw [HHP.out, ← HFP.out, ← HTP.out])
                    | (go_at_call 30; refine (rkind_any s _ _ (by omega)).mono ?_; rintro e w' ⟨rfl, rfl⟩; rw [HHP.out, HKP.out])
                    | (go_at_call 87; refine (tab_any s fp tp _ (by omega) HFT.out HTZ.out).mono ?_; rintro e w' ⟨rfl, rfl⟩; rw [HTB.out])
                  go_meet
                  exact ⟨rfl, fp, tp, rfl, rfl, rfl, H2⟩
              | true =>
                by_cases hpq : p = q
                · have hn1 : ¬ (true = true ∧ (Bk.kindN s p = 3 ∨ Bk.kindN s p = 4)) := by rw [hK]; omega
                  have hn2 : ¬ (true = true ∧ Bk.kindN s p = 5 ∧ true = false ∧ 0 ≤ Bk.tabI s (Bk.fromN s p) (Bk.toN s p)) := fun h => by cases h.2.2.1
                  have hn3 : ¬ (true = true ∧ Bk.kindN s p = 5 ∧ true = true ∧ p ≠ q ∧ (Bk.inN s p : Int) ≤ n) := fun h => h.2.2.2.1 hpq
                  have e0 : ((p : Int) != (q : Int)) = false := by simp; omega
                  have H2 : Hid (R = if Bk.whiteB (bt s p) = true then Bk.btwL s q n true f (p + 1) false fp l same
                    else if bt s p = 10 then Bk.btwL s q n true f (p + 1) true fp l same
                    else if Bk.noteB s p = true then Bk.btwL s q n true f tp false fp (l ++ [Bk.cmAt s p]) (if L = 0 then decide (f0 ≠ q) && decide (f0 = fp) else same)
                    else some (l, same, p)) := Lib.hid (by rw [HRR.out, Bk.btwL, if_pos hlt, HF0.out, HLL.out, HTP.out]; rw [if_neg hn1, if_neg hn2, if_neg hn3, if_pos rfl, ← HFP.out])
                  clear hK hn1 hn2 hn3 hpq
                  go_wp2_with first
                    | (go_at_call 32; (with_reducible refine (rrow_any s p _ (by omega)).mono ?_); rintro e w' ⟨rfl, rfl⟩; rw [HHP.out, ← HFP.out, ← HTP.out])
                    | (go_at_call 30; refine (rkind_any s _ _ (by omega)).mono ?_; rintro e w' ⟨rfl, rfl⟩; rw [HHP.out, HKP.out])
                  go_meet
                  exact ⟨rfl, fp, tp, rfl, rfl, rfl, H2⟩
                · have e0 : ((p : Int) != (q : Int)) = true := by simp; omega
                  obtain ⟨iN, hiN⟩ : ∃ iN, iN = Bk.inN s p := ⟨_, rfl⟩
                  have HIN := Lib.hid hiN
                  by_cases hin : (iN : Int) ≤ n
                  · have HE : Hid (R = none) := Lib.hid (by rw [HRR.out, Bk.btwL, if_pos hlt, if_neg (by rw [hK]; exact fun h => by omega), if_neg (fun h => by cases h.2.2.1), if_pos ⟨rfl, hK, rfl, hpq, by rw [← hiN]; exact hin⟩])
                    clear hK hiN hpq
                    go_wp2_with first
                      | (go_at_call 32; (with_reducible refine (rrow_any s p _ (by omega)).mono ?_); rintro e w' ⟨rfl, rfl⟩; rw [HHP.out, ← HFP.out, ← HTP.out])
                      | (go_at_call 30; refine (rkind_any s _ _ (by omega)).mono ?_; rintro e w' ⟨rfl, rfl⟩; rw [HHP.out, HKP.out])
                      | (go_at_call 88; refine (rin_any s _ _ (by omega)).mono ?_; rintro e w' ⟨rfl, rfl⟩; rw [HHP.out, ← HIN.out])
                      | (go_at_call 33; refine (rfirst_any s fp tp _ (by omega) HTZ.out).mono ?_; rintro e w' ⟨rfl, rfl⟩)
                    (try simp only [Exit.inBlock, Exit.then])
                    refine bodyPost_ret (results_tmp4 rfl _ _ _) rfl ?_
                    exact btw_none HE.out (.inr rfl) HW.out
                  · have hn1 : ¬ (true = true ∧ (Bk.kindN s p = 3 ∨ Bk.kindN s p = 4)) := by rw [hK]; omega
                    have hn2 : ¬ (true = true ∧ Bk.kindN s p = 5 ∧ true = false ∧ 0 ≤ Bk.tabI s (Bk.fromN s p) (Bk.toN s p)) := fun h => by cases h.2.2.1
                    have hn3 : ¬ (true = true ∧ Bk.kindN s p = 5 ∧ true = true ∧ p ≠ q ∧ (Bk.inN s p : Int) ≤ n) := fun h => hin (by rw [hiN]; exact h.2.2.2.2)
                    have H2 : Hid (R = if Bk.whiteB (bt s p) = true then Bk.btwL s q n true f (p + 1) false fp l same
                      else if bt s p = 10 then Bk.btwL s q n true f (p + 1) true fp l same
                      else if Bk.noteB s p = true then Bk.btwL s q n true f tp false fp (l ++ [Bk.cmAt s p]) (if L = 0 then decide (f0 ≠ q) && decide (f0 = fp) else same)
                      else some (l, same, p)) := Lib.hid (by rw [HRR.out, Bk.btwL, if_pos hlt, HF0.out, HLL.out, HTP.out]; rw [if_neg hn1, if_neg hn2, if_neg hn3, if_pos rfl, ← HFP.out])
                    clear hK hiN hn1 hn2 hn3 hpq
                    go_wp2_with first
                      | (go_at_call 32; (with_reducible refine (rrow_any s p _ (by omega)).mono ?_); rintro e w' ⟨rfl, rfl⟩; rw [HHP.out, ← HFP.out, ← HTP.out])
                      | (go_at_call 30; refine (rkind_any s _ _ (by omega)).mono ?_; rintro e w' ⟨rfl, rfl⟩; rw [HHP.out, HKP.out])
                      | (go_at_call 88; refine (rin_any s _ _ (by omega)).mono ?_; rintro e w' ⟨rfl, rfl⟩; rw [HHP.out, ← HIN.out])
                    go_meet
                    exact ⟨rfl, fp, tp, rfl, rfl, rfl, H2⟩
            · have hn1 : ¬ (true = true ∧ (Bk.kindN s p = 3 ∨ Bk.kindN s p = 4)) := by rw [hK]; exact fun h => hK34 h.2
              have hn2 : ¬ (true = true ∧ Bk.kindN s p = 5 ∧ wi = false ∧ 0 ≤ Bk.tabI s (Bk.fromN s p) (Bk.toN s p)) := fun h => hK5 (by rw [← hK]; exact h.2.1)
              have hn3 : ¬ (true = true ∧ Bk.kindN s p = 5 ∧ wi = true ∧ p ≠ q ∧ (Bk.inN s p : Int) ≤ n) := fun h => hK5 (by rw [← hK]; exact h.2.1)
              have k3 : (K == 3) = false := by simp; omega
              have k4 : (K == 4) = false := by simp; omega
              have k5 : (K == 5) = false := by simp; omega
              have H2 : Hid (R = if Bk.whiteB (bt s p) = true then Bk.btwL s q n wi f (p + 1) false fp l same
                else if bt s p = 10 then Bk.btwL s q n wi f (p + 1) true fp l same
                else if Bk.noteB s p = true then Bk.btwL s q n wi f tp false fp (l ++ [Bk.cmAt s p]) (if L = 0 then decide (f0 ≠ q) && decide (f0 = fp) else same)
                else some (l, same, p)) := Lib.hid (by rw [HRR.out, Bk.btwL, if_pos hlt, HF0.out, HLL.out, HTP.out]; rw [if_neg hn1, if_neg hn2, if_neg hn3, if_pos rfl, ← HFP.out])
              clear hK hn1 hn2 hn3
              go_wp2_with first
                | (go_at_call 32; (with_reducible refine (rrow_any s p _ (by omega)).mono ?_); rintro e w' ⟨rfl, rfl⟩; rw [HHP.out, ← HFP.out, ← HTP.out])
                | (go_at_call 30; refine (rkind_any s _ _ (by omega)).mono ?_; rintro e w' ⟨rfl, rfl⟩; rw [HHP.out, HKP.out])
              go_meet
              exact ⟨rfl, fp, tp, rfl, rfl, rfl, H2⟩
      case rest =>
        obtain ⟨rfl, rw2, t', rfl, rfl, rfl, H2⟩ := hcut
        cases hwh : Bk.whiteB (bt s p) with
        | true =>
          have HWH := Lib.hid hwh
          have H3 : Hid (R = Bk.btwL s q n wi f (p + 1) false rw2 l same) := Lib.hid (by rw [H2.out, if_pos hwh])
          clear hwh
          go_wp2_with first
            | (go_at_call 63; refine (rwhite_any _ _).mono ?_; rintro e w' ⟨rfl, rfl⟩; rw [HWH.out])
          go_roundg (s.size - (p + 1))
          case measure => omega
          case rel => exact ⟨l, rw2, _, same, p + 1, false, f, by omega, by omega, by omega, by rw [← HLL.out]; omega, rfl, rfl, rfl, by go_num, rfl, H3, HV2, HW⟩
        | false =>
          have HWH := Lib.hid hwh
          by_cases h10 : bt s p = 10
          · have q10 : (bt s p == 10) = true := by simp [h10]
            have W10 : Bk.whiteB 10 = false := rfl
            have H3 : Hid (R = Bk.btwL s q n wi f (p + 1) true rw2 l same) := Lib.hid (by rw [H2.out, if_neg (by rw [hwh]; decide), if_pos h10])
            clear hwh
            go_wp2_with first
              | (go_at_call 63; refine (rwhite_any _ _).mono ?_; rintro e w' ⟨rfl, rfl⟩; first | rw [HWH.out] | rw [W10])
            go_roundg (s.size - (p + 1))
            case measure => omega
            case rel => exact ⟨l, rw2, _, same, p + 1, true, f, by omega, by omega, by omega, by rw [← HLL.out]; omega, rfl, rfl, rfl, by go_num, rfl, H3, HV2, HW⟩
          · have q10 : (bt s p == 10) = false := by simp [h10]
            cases hnt : Bk.noteB s p with
            | true =>
              have HNT := Lib.hid hnt
              have htm := Bk.to_more hlt h10
              rw [← HTP.out] at htm
              have hez := Bk.size_ext s (p + 1) tp htle
              have HCZ : Hid ((s.extract (p + 1) tp).size ≤ 1000000000) := Lib.hid (by rw [hez]; omega)
              have HCM : Hid (Bk.cmAt s p = ⟨Bk.cutS (s.extract (p + 1) tp), Bk.aboveN s p⟩) := Lib.hid (by unfold Bk.cmAt; rw [HTP.out])
              have h3 : R = Bk.btwL s q n wi f tp false rw2 (l ++ [Bk.cmAt s p]) (if L = 0 then decide (f0 ≠ q) && decide (f0 = rw2) else same) := by rw [H2.out, if_neg (by rw [hwh]; decide), if_neg h10, if_pos hnt]
              clear hwh hnt
              by_cases hL0 : L = 0
              · rw [if_pos hL0] at h3
                subst hL0
                by_cases hfq : f0 = q
                · have H3 : Hid (R = Bk.btwL s q n wi f tp false rw2 (l ++ [Bk.cmAt s p]) false) := Lib.hid (by rw [h3]; simp [hfq])
                  have e1 : ((f0 : Int) != (q : Int)) = false := by simp; omega
                  clear h3 hfq
                  go_wp2_with first
                    | (go_at_call 32; (with_reducible refine (rrow_any s p _ (by omega)).mono ?_); rintro e w' ⟨rfl, rfl⟩; rw [HHP.out, ← HFP.out, ← HTP.out])
                    | (go_at_call 32; (with_reducible refine (rrow_any s q _ (by omega)).mono ?_); rintro e w' ⟨rfl, rfl⟩; rw [HH.out, ← HF0.out, ← HT0.out])
                    | (go_at_call 63; refine (rwhite_any _ _).mono ?_; rintro e w' ⟨rfl, rfl⟩; rw [HWH.out])
                    | (go_at_call 89; refine (note_any s p _ (by omega) hlt).mono ?_; rintro e w' ⟨rfl, rfl⟩; rw [HNT.out])
                    | (go_at_call 34; refine (cut_any _ _ HCZ.out).mono ?_; rintro e w' ⟨rfl, rfl⟩)
                    | (go_at_call 90; refine (rabove_any s _ _ (by omega)).mono ?_; rintro e w' ⟨rfl, rfl⟩; rw [HHP.out])
                    | (at_builtin; refine app_cm (w0 := w) rfl (.tmp 145) (.tmp 156) rfl _ l (Bk.cmAt s p) rfl rfl HV (by rw [← HLL.out]; omega) (by rw [HCM.out]) HW ?_; intro v3 w3 HV3 HW3)
                  go_roundg (s.size - tp)
                  case measure => omega
                  case rel => exact ⟨_, rw2, _, false, tp, false, f, by omega, by omega, by omega, by rw [List.length_append, ← HLL.out]; show 0 + 1 ≤ tp; omega, rfl, rfl, rfl, rfl, rfl, H3, HV3, HW3⟩
                · by_cases hfr : f0 = rw2
                  · have H3 : Hid (R = Bk.btwL s q n wi f tp false rw2 (l ++ [Bk.cmAt s p]) true) := Lib.hid (by rw [h3, decide_eq_true hfq, decide_eq_true hfr]; rfl)
                    have e1 : ((f0 : Int) != (q : Int)) = true := by simp; omega
                    have e2 : ((f0 : Int) == (rw2 : Int)) = true := by simp; omega
                    clear h3 hfq hfr
                    go_wp2_with first
                      | (go_at_call 32; (with_reducible refine (rrow_any s p _ (by omega)).mono ?_); rintro e w' ⟨rfl, rfl⟩; rw [HHP.out, ← HFP.out, ← HTP.out])
                      | (go_at_call 32; (with_reducible refine (rrow_any s q _ (by omega)).mono ?_); rintro e w' ⟨rfl, rfl⟩; rw [HH.out, ← HF0.out, ← HT0.out])
                      | (go_at_call 63; refine (rwhite_any _ _).mono ?_; rintro e w' ⟨rfl, rfl⟩; rw [HWH.out])
                      | (go_at_call 89; refine (note_any s p _ (by omega) hlt).mono ?_; rintro e w' ⟨rfl, rfl⟩; rw [HNT.out])
                      | (go_at_call 34; refine (cut_any _ _ HCZ.out).mono ?_; rintro e w' ⟨rfl, rfl⟩)
                      | (go_at_call 90; refine (rabove_any s _ _ (by omega)).mono ?_; rintro e w' ⟨rfl, rfl⟩; rw [HHP.out])
                      | (at_builtin; refine app_cm (w0 := w) rfl (.tmp 145) (.tmp 156) rfl _ l (Bk.cmAt s p) rfl rfl HV (by rw [← HLL.out]; omega) (by rw [HCM.out]) HW ?_; intro v3 w3 HV3 HW3)
                    go_roundg (s.size - tp)
                    case measure => omega
                    case rel => exact ⟨_, rw2, _, true, tp, false, f, by omega, by omega, by omega, by rw [List.length_append, ← HLL.out]; show 0 + 1 ≤ tp; omega, rfl, rfl, by first | rfl | rw [e2] | (rw [e1, e2]; rfl), rfl, rfl, H3, HV3, HW3⟩
                  · have H3 : Hid (R = Bk.btwL s q n wi f tp false rw2 (l ++ [Bk.cmAt s p]) false) := Lib.hid (by rw [h3, decide_eq_true hfq, decide_eq_false hfr]; rfl)
                    have e1 : ((f0 : Int) != (q : Int)) = true := by simp; omega
                    have e2 : ((f0 : Int) == (rw2 : Int)) = false := by simp; omega
                    clear h3 hfq hfr
                    go_wp2_with first
                      | (go_at_call 32; (with_reducible refine (rrow_any s p _ (by omega)).mono ?_); rintro e w' ⟨rfl, rfl⟩; rw [HHP.out, ← HFP.out, ← HTP.out])
                      | (go_at_call 32; (with_reducible refine (rrow_any s q _ (by omega)).mono ?_); rintro e w' ⟨rfl, rfl⟩; rw [HH.out, ← HF0.out, ← HT0.out])
                      | (go_at_call 63; refine (rwhite_any _ _).mono ?_; rintro e w' ⟨rfl, rfl⟩; rw [HWH.out])
                      | (go_at_call 89; refine (note_any s p _ (by omega) hlt).mono ?_; rintro e w' ⟨rfl, rfl⟩; rw [HNT.out])
                      | (go_at_call 34; refine (cut_any _ _ HCZ.out).mono ?_; rintro e w' ⟨rfl, rfl⟩)
                      | (go_at_call 90; refine (rabove_any s _ _ (by omega)).mono ?_; rintro e w' ⟨rfl, rfl⟩; rw [HHP.out])
                      | (at_builtin; refine app_cm (w0 := w) rfl (.tmp 145) (.tmp 156) rfl _ l (Bk.cmAt s p) rfl rfl HV (by rw [← HLL.out]; omega) (by rw [HCM.out]) HW ?_; intro v3 w3 HV3 HW3)
                    go_roundg (s.size - tp)
                    case measure => omega
                    case rel => exact ⟨_, rw2, _, false, tp, false, f, by omega, by omega, by omega, by rw [List.length_append, ← HLL.out]; show 0 + 1 ≤ tp; omega, rfl, rfl, by first | rfl | rw [e2] | (rw [e1, e2]; rfl), rfl, rfl, H3, HV3, HW3⟩
              · rw [if_neg hL0] at h3
                have H3 := Lib.hid h3
                clear h3
                go_wp2_with first
                  | (go_at_call 32; (with_reducible refine (rrow_any s p _ (by omega)).mono ?_); rintro e w' ⟨rfl, rfl⟩; rw [HHP.out, ← HFP.out, ← HTP.out])
                  | (go_at_call 63; refine (rwhite_any _ _).mono ?_; rintro e w' ⟨rfl, rfl⟩; rw [HWH.out])
                  | (go_at_call 89; refine (note_any s p _ (by omega) hlt).mono ?_; rintro e w' ⟨rfl, rfl⟩; rw [HNT.out])
                  | (go_at_call 34; refine (cut_any _ _ HCZ.out).mono ?_; rintro e w' ⟨rfl, rfl⟩)
                  | (go_at_call 90; refine (rabove_any s _ _ (by omega)).mono ?_; rintro e w' ⟨rfl, rfl⟩; rw [HHP.out])
                  | (at_builtin; refine app_cm (w0 := w) rfl (.tmp 145) (.tmp 156) rfl _ l (Bk.cmAt s p) rfl rfl HV (by rw [← HLL.out]; omega) (by rw [HCM.out]) HW ?_; intro v3 w3 HV3 HW3)
                go_roundg (s.size - tp)
                case measure => omega
                case rel => exact ⟨_, rw2, _, same, tp, false, f, by omega, by omega, by omega, by rw [List.length_append, ← HLL.out]; show L + 1 ≤ tp; omega, rfl, rfl, rfl, rfl, rfl, H3, HV3, HW3⟩
            | false =>
              have HNT := Lib.hid hnt
              have HE : Hid (R = some (l, same, p)) := Lib.hid (by rw [H2.out, if_neg (by rw [hwh]; decide), if_neg h10, if_neg (by rw [hnt]; decide)])
              clear hwh hnt
              go_wp2_with first
                | (go_at_call 63; refine (rwhite_any _ _).mono ?_; rintro e w' ⟨rfl, rfl⟩; rw [HWH.out])
                | (go_at_call 89; refine (note_any s p _ (by omega) hlt).mono ?_; rintro e w' ⟨rfl, rfl⟩; rw [HNT.out])
              (try simp only [Exit.inBlock, Exit.then])
              refine bodyPost_ret (results_tmp4 rfl _ _ _) rfl ?_
              exact btw_some HE.out HLL.out HSL.out HW.out
    · have HE : Hid (R = some (l, same, p)) := Lib.hid (by
        obtain ⟨f, rfl⟩ : ∃ g, f = g + 1 := ⟨f - 1, by omega⟩
        rw [HRR.out, Bk.btwL, if_neg hlt])
      go_wp2_with fail
      (try simp only [Exit.inBlock, Exit.then])
      refine bodyPost_ret (results_tmp4 rfl _ _ _) rfl ?_
      exact btw_some HE.out HLL.out HSL.out HW.out
theorem btw_at (s : ByteArray) (q : Nat) (n : Int) (wi : Bool) (r : Option (List Cm × Bool × Nat)) (w : World) (hs : s.size ≤ 1000000) (hq : q ≤ s.size) (hr : Bk.btwS s q n wi = r) :
    Calls Tryz.prog 60 #[.string s, .int .i64 q, .int .i64 n, .bool wi] w (BtwPost r w) := by subst hr; exact between_any s q n wi w hs hq
set_option maxHeartbeats 4000000 in
theorem skip_any (s : ByteArray) (q : Nat) (w : World) (hs : s.size ≤ 1000000) (hq : q ≤ s.size) :
    Calls Tryz.prog 29 #[.string s, .int .i64 q] w (BtwPost (Bk.btwS s q 0 false) w) := by
  cases hr : Bk.btwS s q 0 false with
  | none =>
    go_enter Tryz.func29, Tryz.ntmps29
    go_wp2_with (go_at_call 60; refine (btw_at s q 0 false _ _ hs hq hr).mono ?_; rintro e w1 ⟨⟨p, c, rfl, hc⟩, hb⟩)
    (try simp only [Exit.inBlock, Exit.then])
    refine bodyPost_ret (results_tmp4 rfl _ _ _) rfl ?_
    exact ⟨⟨p, c, rfl, hc⟩, hb⟩
  | some x =>
    obtain ⟨l, same, p⟩ := x
    go_enter Tryz.func29, Tryz.ntmps29
    go_wp2_with (go_at_call 60; refine (btw_at s q 0 false _ _ hs hq hr).mono ?_; rintro e w1 ⟨⟨a, cp, rfl, hsl⟩, hb⟩)
    (try simp only [Exit.inBlock, Exit.then])
    refine bodyPost_ret (results_tmp4 rfl _ _ _) rfl ?_
    exact ⟨⟨a, cp, rfl, hsl⟩, hb⟩
set_option maxHeartbeats 4000000 in
theorem within_any (s : ByteArray) (q : Nat) (n : Int) (w : World) (hs : s.size ≤ 1000000) (hq : q ≤ s.size) :
    Calls Tryz.prog 159 #[.string s, .int .i64 q, .int .i64 n] w (BtwPost (Bk.btwS s q n true) w) := by
  cases hr : Bk.btwS s q n true with
  | none =>
    go_enter Tryz.func159, Tryz.ntmps159
    go_wp2_with (go_at_call 60; refine (btw_at s q n true _ _ hs hq hr).mono ?_; rintro e w1 ⟨⟨p, c, rfl, hc⟩, hb⟩)
    (try simp only [Exit.inBlock, Exit.then])
    refine bodyPost_ret (results_tmp4 rfl _ _ _) rfl ?_
    exact ⟨⟨p, c, rfl, hc⟩, hb⟩
  | some x =>
    obtain ⟨l, same, p⟩ := x
    go_enter Tryz.func159, Tryz.ntmps159
    go_wp2_with (go_at_call 60; refine (btw_at s q n true _ _ hs hq hr).mono ?_; rintro e w1 ⟨⟨a, cp, rfl, hsl⟩, hb⟩)
    (try simp only [Exit.inBlock, Exit.then])
    refine bodyPost_ret (results_tmp4 rfl _ _ _) rfl ?_
    exact ⟨⟨a, cp, rfl, hsl⟩, hb⟩
end Go.Proofs.YtlmjabnkjmfcmaaGreat
/- A run on abstract values: the functions that have contracts of their own, as calls of the run. -/
namespace Go.Proofs.YtlmjabnkjmfcmaaGreat
open Go Go.RowKit Go.PlainAid
set_option linter.unusedVariables false
set_option linter.unusedSimpArgs false
namespace Ab
open Bk (Cm)
theorem prim_ok {f : Nat} {args : List AV} {r : AV} (he : Ent Tryz.prog f) (hf : r.flat = true) (h : ∀ (lim : Nat → Nat) (w : World) (vs : List Value), AV.Rs lim [] w args vs → Calls Tryz.prog f vs.toArray w fun e w' => ∃ v lim', e = .returned v ∧ Below w.heap.size w w' ∧ (∀ b, b < w.heap.size → lim' b = lim b) ∧ ((∀ b, w.heap.size ≤ b → lim b = 0) → ∀ b, w'.heap.size ≤ b → lim' b = 0) ∧ AV.R lim' [] w' r v) : CallOK Tryz.prog f args [] r [] := by
  refine ⟨he, Nat.le_refl _, fun lim bs w vs m hvl hm H => ?_⟩
  have hbs : bs = [] := List.eq_nil_of_length_eq_zero (by rw [H.len]; rfl)
  subst hbs
  refine (h lim w vs (Rs_slots hvl H)).mono ?_
  rintro e w' ⟨v, lim', rfl, hb, h1, h2, h3⟩
  refine ⟨v, lim', [], rfl, Hold.res (h2 H.top) h3 (by rw [AV.top, hf]; simp) (fun g hh => by rw [flat_row hf] at hh; cases hh), ⟨⟨hb.os, hb.tape, hb.output, hb.size, fun k hk => absurd hk (Nat.not_lt_zero _)⟩, fun b hbl _ => ⟨hb.block b hbl, h1 b hbl⟩, fun b hbl => Nat.le_of_eq (h1 b hbl).symm, fun b j hbl _ => World.cell?_of_block (hb.block b hbl), fun b cur e p hh => ⟨cur, (hb.block b (lt_of_heap hh)).trans hh, rfl⟩⟩, fun i hi => by cases hi⟩
/-- One that gives a value that hangs on no memory. -/
theorem prim_val {f : Nat} {args : List AV} {r : AV} {vs : List Value} {u : Value} (he : Ent Tryz.prog f) (hf : r.flat = true) (ha : ∀ (lim : Nat → Nat) (w : World) (vs' : List Value), AV.Rs lim [] w args vs' → vs' = vs) (hr : ∀ (lim : Nat → Nat) (w : World), AV.R lim [] w r u) (h : ∀ w, Calls Tryz.prog f vs.toArray w fun e w' => e = .returned u ∧ Below w.heap.size w w') : CallOK Tryz.prog f args [] r [] := by
  refine prim_ok he hf fun lim w vs' hR => ?_
  rw [ha lim w vs' hR]
  refine (h w).mono ?_
  rintro e w' ⟨rfl, hb⟩
  exact ⟨u, lim, rfl, hb, fun _ _ => rfl, fun ht b hbb => ht b (Nat.le_trans hb.size hbb), hr lim w'⟩
theorem same_val {f : Nat} {args : List AV} {r : AV} {vs : List Value} {u : Value} (he : Ent Tryz.prog f) (hf : r.flat = true) (ha : ∀ (lim : Nat → Nat) (w : World) (vs' : List Value), AV.Rs lim [] w args vs' → vs' = vs) (hr : ∀ (lim : Nat → Nat) (w : World), AV.R lim [] w r u) (h : ∀ w, Calls Tryz.prog f vs.toArray w fun e w' => e = .returned u ∧ w = w') : CallOK Tryz.prog f args [] r [] :=
  prim_val he hf ha hr fun w => (h w).mono fun e w' hh => ⟨hh.1, hh.2 ▸ Below.refl _ _⟩
theorem a_u8 {c : Int} : ∀ (lim : Nat → Nat) (w : World) (vs' : List Value), AV.Rs lim [] w [.int .u8 c] vs' → vs' = [.int .u8 c] := by
  intro lim w vs' h
  simp only [AV.Rs, AV.R] at h
  obtain ⟨v, r, rfl, rfl, rfl⟩ := h
  rfl
theorem a_s {s : ByteArray} : ∀ (lim : Nat → Nat) (w : World) (vs' : List Value), AV.Rs lim [] w [.str s] vs' → vs' = [.string s] := by
  intro lim w vs' h
  simp only [AV.Rs, AV.R] at h
  obtain ⟨v, r, rfl, rfl, rfl⟩ := h
  rfl
theorem a_i {n : Int} : ∀ (lim : Nat → Nat) (w : World) (vs' : List Value), AV.Rs lim [] w [.int .i64 n] vs' → vs' = [.int .i64 n] := by
  intro lim w vs' h
  simp only [AV.Rs, AV.R] at h
  obtain ⟨v, r, rfl, rfl, rfl⟩ := h
  rfl
theorem a_si {s : ByteArray} {a : Int} : ∀ (lim : Nat → Nat) (w : World) (vs' : List Value), AV.Rs lim [] w [.str s, .int .i64 a] vs' → vs' = [.string s, .int .i64 a] := by
  intro lim w vs' h
  simp only [AV.Rs, AV.R] at h
  obtain ⟨v, r, rfl, rfl, v2, r2, rfl, rfl, rfl⟩ := h
  rfl
theorem a_sii {s : ByteArray} {a b : Int} : ∀ (lim : Nat → Nat) (w : World) (vs' : List Value), AV.Rs lim [] w [.str s, .int .i64 a, .int .i64 b] vs' → vs' = [.string s, .int .i64 a, .int .i64 b] := by
  intro lim w vs' h
  simp only [AV.Rs, AV.R] at h
  obtain ⟨v, r, rfl, rfl, v2, r2, rfl, rfl, v3, r3, rfl, rfl, rfl⟩ := h
  rfl
theorem a_sib {s : ByteArray} {a : Int} {b : Bool} : ∀ (lim : Nat → Nat) (w : World) (vs' : List Value), AV.Rs lim [] w [.str s, .int .i64 a, .bool b] vs' → vs' = [.string s, .int .i64 a, .bool b] := by
  intro lim w vs' h
  simp only [AV.Rs, AV.R] at h
  obtain ⟨v, r, rfl, rfl, v2, r2, rfl, rfl, v3, r3, rfl, rfl, rfl⟩ := h
  rfl
theorem a_siib {s : ByteArray} {a c : Int} {b : Bool} : ∀ (lim : Nat → Nat) (w : World) (vs' : List Value), AV.Rs lim [] w [.str s, .int .i64 a, .int .i64 c, .bool b] vs' → vs' = [.string s, .int .i64 a, .int .i64 c, .bool b] := by
  intro lim w vs' h
  simp only [AV.Rs, AV.R] at h
  obtain ⟨v, r, rfl, rfl, v2, r2, rfl, rfl, v3, r3, rfl, rfl, v4, r4, rfl, rfl, rfl⟩ := h
  rfl
theorem pI_inv {f : Int → AV} {args : List AV} {v : AV} (h : pI f args = some v) : ∃ c, args = [.int .u8 c] ∧ v = f c := by
  unfold pI at h
  split at h
  · cases h; exact ⟨_, rfl, rfl⟩
  · cases h
theorem pSI_inv {f : ByteArray → Int → Option AV} {args : List AV} {v : AV} (h : pSI f args = some v) : ∃ s a, args = [.str s, .int .i64 a] ∧ s.size ≤ 900000 ∧ f s a = some v := by
  unfold pSI at h
  split at h
  · split at h
    · rename_i hs; exact ⟨_, _, rfl, hs, h⟩
    · cases h
  · cases h
theorem pSII_inv {f : ByteArray → Int → Int → Option AV} {args : List AV} {v : AV} (h : pSII f args = some v) : ∃ s a b, args = [.str s, .int .i64 a, .int .i64 b] ∧ s.size ≤ 900000 ∧ f s a b = some v := by
  unfold pSII at h
  split at h
  · split at h
    · rename_i hs; exact ⟨_, _, _, rfl, hs, h⟩
    · cases h
  · cases h
theorem inT_inv {s : ByteArray} {a : Int} {f : Nat → AV} {v : AV} (h : inT s a f = some v) : ∃ q : Nat, a = q ∧ q ≤ s.size ∧ v = f q := by
  unfold inT at h
  split at h
  · rename_i hh
    cases h
    exact ⟨a.toNat, by omega, by omega, rfl⟩
  · cases h
/-- What lies in memory of comments. -/
theorem CAt_Rm {lim : Nat → Nat} {bs : List Nat} {w : World} {b : Nat} : ∀ {l : List Cm} {off : Nat}, CAt w l b off → AV.Rm lim bs w b off (cmA l)
  | [], off, _ => by rw [cmA, AV.Rm]; trivial
  | c :: l, off, h => by
    obtain ⟨h1, h2, h3⟩ := h
    rw [cmA, AV.Rm, AV.Rm]
    exact ⟨⟨_, h1, by rw [AV.R]⟩, ⟨_, h2, by rw [AV.R]⟩, CAt_Rm h3⟩
theorem cmA_len : ∀ (l : List Cm), (cmA l).length = 2 * l.length
  | [] => rfl
  | c :: l => by rw [cmA, List.length_cons, List.length_cons, List.length_cons, cmA_len l]; omega
theorem cmA_flat : ∀ (l : List Cm), AV.flats (cmA l) = true
  | [] => rfl
  | c :: l => by rw [cmA, AV.flats, AV.flats, cmA_flat l]; rfl
theorem btw_ok {f : Nat} {args : List AV} {vs : List Value} {x : Option (List Cm × Bool × Nat)} (he : Ent Tryz.prog f) (ha : ∀ (lim : Nat → Nat) (w : World) (vs' : List Value), AV.Rs lim [] w args vs' → vs' = vs) (h : ∀ w, Calls Tryz.prog f vs.toArray w (BtwPost x w)) : CallOK Tryz.prog f args [] (btwA x) [] := by
  cases x with
  | none =>
    refine prim_ok he rfl fun lim w vs' hR => ?_
    rw [ha lim w vs' hR]
    refine (h w).mono ?_
    rintro e w' ⟨⟨p, c, rfl, hc⟩, hb⟩
    refine ⟨_, lim, rfl, hb, fun _ _ => rfl, fun ht b hbb => ht b (Nat.le_trans hb.size hbb), ?_⟩
    show AV.R lim [] w' (.tup [.nil, .bool false, .unk .i64, .nz .i64]) _
    rw [AV.R]
    refine ⟨_, rfl, ?_⟩
    simp only [AV.Rs, AV.R]
    exact ⟨_, _, rfl, rfl, _, _, rfl, rfl, _, _, rfl, ⟨_, rfl⟩, _, _, rfl, ⟨c, by omega, rfl⟩, rfl⟩
  | some q =>
    obtain ⟨l, same, p⟩ := q
    refine prim_ok he (by show AV.flats _ = true; simp [AV.flats, AV.flat, cmA_flat]) fun lim w vs' hR => ?_
    rw [ha lim w vs' hR]
    refine (h w).mono ?_
    rintro e w' ⟨⟨a, cp, rfl, hs, hcp⟩, hb⟩
    have hval : ∃ lim' : Nat → Nat, (∀ b, b < w.heap.size → lim' b = lim b) ∧ ((∀ b, w.heap.size ≤ b → lim b = 0) → ∀ b, w'.heap.size ≤ b → lim' b = 0) ∧ AV.R lim' [] w' (.sl l.length (cmA l)) (.slice a l.length cp) := by
      rcases hs with h0 | ⟨b, off, rfl, h1, h2, h3⟩
      · have : l = [] := List.eq_nil_of_length_eq_zero h0
        subst this
        exact ⟨lim, fun _ _ => rfl, fun ht b hbb => ht b (Nat.le_trans hb.size hbb), by rw [AV.R]; exact ⟨a, cp, rfl, hcp, .inl rfl⟩⟩
      · refine ⟨fun k => if k = b then off + (cmA l).length else lim k, fun k hk => if_neg (by omega), fun ht k hk => ?_, ?_⟩
        · show (if k = b then off + (cmA l).length else lim k) = 0
          rw [if_neg (by omega)]
          exact ht k (Nat.le_trans hb.size hk)
        · rw [AV.R]
          exact ⟨_, cp, rfl, hcp, .inr ⟨b, off, rfl, h1, by simp, CAt_Rm h3⟩⟩
    obtain ⟨lim', g1, g2, g3⟩ := hval
    refine ⟨_, lim', rfl, hb, g1, g2, ?_⟩
    show AV.R lim' [] w' (.tup [.sl l.length (cmA l), .bool same, .int .i64 p, .int .i64 0]) _
    rw [AV.R]
    refine ⟨_, rfl, ?_⟩
    rw [AV.Rs]
    refine ⟨_, _, rfl, g3, ?_⟩
    simp only [AV.Rs, AV.R]
    exact ⟨_, _, rfl, rfl, _, _, rfl, rfl, _, _, rfl, rfl, rfl⟩
theorem R_int {lim : Nat → Nat} {w : World} {k : IntKind} {n : Int} : AV.R lim [] w (.int k n) (.int k n) := by rw [AV.R]
theorem R_bool {lim : Nat → Nat} {w : World} {b : Bool} : AV.R lim [] w (.bool b) (.bool b) := by rw [AV.R]
theorem R_str {lim : Nat → Nat} {w : World} {s : ByteArray} : AV.R lim [] w (.str s) (.string s) := by rw [AV.R]
set_option maxRecDepth 100000 in
theorem prims_ok : ∀ p ∈ primL, ∀ (args : List AV) (v : AV), p.2 args = some v → CallOK Tryz.prog p.1 args [] v [] := by
  have hsz : ∀ {s : ByteArray}, s.size ≤ 900000 → s.size ≤ 4611686018427387903 := fun h => Nat.le_trans h (by decide)
  have hsm : ∀ {s : ByteArray}, s.size ≤ 900000 → s.size ≤ 1000000 := fun h => Nat.le_trans h (by decide)
  simp only [primL, List.forall_mem_cons]
  refine ⟨?_, ?_, ?_, ?_, ?_, ?_, ?_, ?_, ?_, ?_, ?_, ?_, ?_, ?_, ?_, ?_, ?_, ?_, fun p hp => by cases hp⟩
  · intro args v h
    obtain ⟨s, a, rfl, hs, h⟩ := pSI_inv h
    obtain ⟨q, rfl, hq, rfl⟩ := inT_inv h
    exact btw_ok ⟨_, rfl, rfl, rfl⟩ a_si fun w => skip_any s q w (hsm hs) hq
  · intro args v h
    obtain ⟨s, a, rfl, hs, h⟩ := pSI_inv h
    cases h
    exact same_val ⟨_, rfl, rfl, rfl⟩ rfl a_si (fun _ _ => R_int) fun w => rkind_any s a w (hsz hs)
  · intro args v h
    obtain ⟨s, a, rfl, hs, h⟩ := pSI_inv h
    cases h
    exact same_val ⟨_, rfl, rfl, rfl⟩ rfl a_si (fun _ _ => R_int) fun w => rcol_any s a w (hsz hs)
  · intro args v h
    obtain ⟨s, a, rfl, hs, h⟩ := pSI_inv h
    cases h
    exact same_val ⟨_, rfl, rfl, rfl⟩ rfl a_si (fun _ _ => by rw [AV.R]; refine ⟨_, rfl, ?_⟩; simp only [AV.Rs, AV.R]; exact ⟨_, _, rfl, rfl, _, _, rfl, rfl, rfl⟩) fun w => rrow_any s a w (hsz hs)
  · intro args v h
    obtain ⟨s, a, b, rfl, hs, h⟩ := pSII_inv h
    split at h
    · rename_i hh
      cases h
      obtain ⟨q, rfl⟩ : ∃ q : Nat, a = q := ⟨a.toNat, by omega⟩
      obtain ⟨r, rfl⟩ : ∃ r : Nat, b = r := ⟨b.toNat, by omega⟩
      exact same_val ⟨_, rfl, rfl, rfl⟩ rfl a_sii (fun _ _ => R_int) fun w => rfirst_any s q r w (hsz hs) (by omega)
    · cases h
  · intro args v h
    split at h
    · split at h
      · rename_i s hs
        cases h
        exact same_val ⟨_, rfl, rfl, rfl⟩ rfl a_s (fun _ _ => R_str) fun w => cut_any s w (Nat.le_trans hs (by decide))
      · cases h
    · cases h
  · intro args v h
    obtain ⟨s, a, rfl, hs, h⟩ := pSI_inv h
    cases h
    exact same_val ⟨_, rfl, rfl, rfl⟩ rfl a_si (fun _ _ => R_bool) fun w => rends_any s a w
  · intro args v h
    obtain ⟨c, rfl, rfl⟩ := pI_inv h
    exact same_val ⟨_, rfl, rfl, rfl⟩ rfl a_u8 (fun _ _ => R_bool) fun w => rwhite_any c w
  · intro args v h
    obtain ⟨s, a, rfl, hs, h⟩ := pSI_inv h
    cases h
    exact same_val ⟨_, rfl, rfl, rfl⟩ rfl a_si (fun _ _ => R_int) fun w => rin_any s a w (hsz hs)
  · intro args v h
    obtain ⟨s, a, rfl, hs, h⟩ := pSI_inv h
    cases h
    exact same_val ⟨_, rfl, rfl, rfl⟩ rfl a_si (fun _ _ => R_int) fun w => rabove_any s a w (hsz hs)
  · intro args v h
    obtain ⟨c, rfl, rfl⟩ := pI_inv h
    exact same_val ⟨_, rfl, rfl, rfl⟩ rfl a_u8 (fun _ _ => R_bool) fun w => rflow_any c w
  · intro args v h
    split at h
    · split at h
      · rename_i s a fl hs
        cases h
        exact same_val ⟨_, rfl, rfl, rfl⟩ rfl a_sib (fun _ _ => by rw [AV.R]; refine ⟨_, rfl, ?_⟩; simp only [AV.Rs, AV.R]; exact ⟨_, _, rfl, rfl, _, _, rfl, rfl, _, _, rfl, rfl, _, _, rfl, rfl, rfl⟩) fun w => rread_any s a fl w (hsz hs.1) hs.2
      · cases h
    · cases h
  · intro args v h
    obtain ⟨s, a, rfl, hs, h⟩ := pSI_inv h
    split at h
    · rename_i ha
      cases h
      exact same_val ⟨_, rfl, rfl, rfl⟩ rfl a_si (fun _ _ => by rw [AV.R]; refine ⟨_, rfl, ?_⟩; simp only [AV.Rs, AV.R]; exact ⟨_, _, rfl, rfl, _, _, rfl, rfl, _, _, rfl, rfl, rfl⟩) fun w => ralias_any s a w (hsz hs) ha
    · cases h
  · intro args v h
    split at h
    · split at h
      · rename_i s a fl hs
        cases h
        exact same_val ⟨_, rfl, rfl, rfl⟩ rfl a_sib (fun _ _ => R_bool) fun w => rbegins_any s a fl w (hsm hs.1) hs.2
      · cases h
    · cases h
  · intro args v h
    split at h
    · split at h
      · rename_i s a fl hs
        cases h
        exact same_val ⟨_, rfl, rfl, rfl⟩ rfl a_sib (fun _ _ => R_int) fun w => rpart_any s a fl w (hsm hs.1) hs.2
      · cases h
    · cases h
  · intro args v h
    split at h
    · split at h
      · rename_i s a n fl hs
        obtain ⟨q, rfl, hq, rfl⟩ := inT_inv h
        exact prim_val ⟨_, rfl, rfl, rfl⟩ rfl a_siib (fun _ _ => by rw [AV.R]; refine ⟨_, rfl, ?_⟩; simp only [AV.Rs, AV.R]; exact ⟨_, _, rfl, rfl, _, _, rfl, rfl, _, _, rfl, rfl, _, _, rfl, rfl, rfl⟩) fun w => plain84_any s q n fl w hs hq
      · cases h
    · cases h
  · intro args v h
    split at h
    · split at h
      · rename_i n hn
        cases h
        exact same_val ⟨_, rfl, rfl, rfl⟩ rfl a_i (fun _ _ => R_str) fun w => rfeeds_any n w (by omega)
      · cases h
    · cases h
  · intro args v h
    obtain ⟨s, a, n, rfl, hs, h⟩ := pSII_inv h
    obtain ⟨q, rfl, hq, rfl⟩ := inT_inv h
    exact btw_ok ⟨_, rfl, rfl, rfl⟩ a_sii fun w => within_any s q n w (hsm hs) hq
end Ab
end Go.Proofs.YtlmjabnkjmfcmaaGreat
/- A run on abstract values: all that is known of this program; awake is true. -/
namespace Go.Proofs.YtlmjabnkjmfcmaaGreat
open Go Go.RowKit Go.PlainAid
set_option linter.unusedVariables false
set_option linter.unusedSimpArgs false
namespace Ab
def arrL : List (Nat × List Nat) := [(141, [101, 134]), (163, [15]), (41, [29])]
def twoL : List (Nat × List (Nat × Nat × Nat)) := [(10, [(5, (10, 11))]), (13, [(2, (10, 12))])]
def adlL : List (Nat × List Nat) := [(43, [35])]
def frzL : List Nat := [141, 13]
def annT (f : Nat) : Ann := ⟨liveT f, (assoc arrL f).getD [], mem f frzL, (assoc twoL f).getD [], (assoc adlL f).getD []⟩
def cloneG (e z : Nat) : List AV → Option AV
  | [.nil] => some .nil
  | [.sl n l] => if l.length = n * z ∧ ones l = true ∧ AV.flats l = true ∧ n ≤ 1000000 then some (.row e z n l) else none
  | _ => none
def growG : List AV → Option AV
  | [.nil, .int .i64 n] => if 0 ≤ n ∧ n ≤ 100000 then some (if n.toNat = 0 then .nil else .row 56 2 0 []) else none
  | _ => none
def lowG : List AV → Option AV
  | [.low .i64 d m, .int .i64 d'] => if d = d' ∧ 1 ≤ d ∧ d ≤ 1000000000 then some (.int .i64 m) else none
  | _ => none
def semiL : List (Nat × (List AV → Option AV)) := [(39, cloneG 56 2), (40, cloneG 9 1), (73, growG), (22, lowG)]
def semiG (g : List AV → Option AV) : Cal → List AV → List (List AV) → Option (AV × List (List AV)) := fun _ args bx =>
  match bx with
  | [] => match g args with
    | some v => some (v, [])
    | none => none
  | _ => none
def fnL : List Nat := [8, 10, 11, 13, 23, 37, 41, 42, 43, 49, 68, 69, 70, 71, 72, 96, 97, 98, 99, 100, 101, 110, 111, 112, 113, 114, 116, 117, 118, 119, 120, 121, 124, 125, 128, 131, 132, 141, 142, 150, 151, 152, 153, 154, 155, 156, 157, 158, 160, 161, 162, 163, 164, 165, 166, 167, 168, 169]
def fnsOf (P : Program) (f : Nat) : Option Func := if mem f fnL = true then P.funcs[f]? else none
/-- What the run knows of a program: more functions that have contracts. -/
def KD (P : Program) (more : List (Nat × (List AV → Option AV))) : Know :=
  ⟨tyT, fnsOf P, annT, prims, fun f => (assoc (more ++ semiL) f).map semiG⟩
set_option maxRecDepth 100000 in
theorem low_ok (d m : Int) (h1 : 1 ≤ d) (h2 : d ≤ 1000000000) : CallOK Tryz.prog 22 [.low .i64 d m, .int .i64 d] [] (.int .i64 m) [] := by
  refine prim_ok ⟨_, rfl, rfl, rfl⟩ rfl fun lim w vs hR => ?_
  simp only [AV.Rs, AV.R] at hR
  obtain ⟨v, r, rfl, ⟨n, hn, rfl⟩, v2, r2, rfl, rfl, rfl⟩ := hR
  refine (low_any n d w h1 h2).mono ?_
  rintro e w' ⟨rfl, rfl⟩
  refine ⟨_, lim, rfl, Below.refl _ _, fun _ _ => rfl, fun ht b hb => ht b hb, ?_⟩
  have : (Bk.lowN n d : Int) = m := by
    rw [← hn]
    unfold Bk.lowN AV.lowF
    rw [Int.toNat_of_nonneg (Int.emod_nonneg _ (by omega))]; rfl
  rw [this, AV.R]
theorem semis_ok : ∀ p ∈ semiL, ∀ (args : List AV) (v : AV), p.2 args = some v → CallOK Tryz.prog p.1 args [] v [] := by
  simp only [semiL, List.forall_mem_cons]
  have hcl : ∀ {e z : Nat} {args : List AV} {v : AV}, cloneG e z args = some v → (args = [.nil] ∧ v = .nil) ∨ ∃ n l, args = [.sl n l] ∧ v = .row e z n l ∧ l.length = n * z ∧ ones l = true ∧ AV.flats l = true ∧ n ≤ 1000000 := by
    intro e z args v h
    unfold cloneG at h
    split at h
    · cases h; exact .inl ⟨rfl, rfl⟩
    · split at h
      · rename_i n l hc; cases h; exact .inr ⟨n, l, rfl, rfl, hc⟩
      · cases h
    · cases h
  refine ⟨?_, ?_, ?_, ?_, fun p hp => by cases hp⟩
  · intro args v h
    rcases hcl h with ⟨rfl, rfl⟩ | ⟨n, l, rfl, rfl, h1, h2, h3, h4⟩
    · exact cloneN39
    · exact clone39 h1 h2 h3 h4
  · intro args v h
    rcases hcl h with ⟨rfl, rfl⟩ | ⟨n, l, rfl, rfl, h1, h2, h3, h4⟩
    · exact cloneN40
    · exact clone40 h1 h2 h3 h4
  · intro args v h
    unfold growG at h
    split at h
    · split at h
      · rename_i n hc
        cases h
        obtain ⟨q, rfl⟩ : ∃ q : Nat, n = q := ⟨n.toNat, by omega⟩
        exact grow73 q (by omega)
      · cases h
    · cases h
  · intro args v h
    unfold lowG at h
    split at h
    · split at h
      · rename_i d m d' hc
        obtain ⟨rfl, h1, h2⟩ := hc
        cases h
        exact low_ok d m h1 h2
      · cases h
    · cases h
set_option maxRecDepth 1000000 in
theorem fns_ok : (fnL.all fun f => match Tryz.prog.funcs[f]? with
    | some fn => goodF fn
    | none => false) = true := by decide +kernel
theorem kd_ok (more : List (Nat × (List AV → Option AV))) (hm : ∀ p ∈ more, ∀ (args : List AV) (v : AV), p.2 args = some v → CallOK Tryz.prog p.1 args [] v []) : KOK Tryz.prog (KD Tryz.prog more) := by
  refine ⟨tok, fun f fn h => ?_, fun f g args v h1 h2 _ _ => prims_ok _ (assoc_mem h1) args v h2, fun f g cal args bx r bx' h1 _ h2 => ?_⟩
  · have h' : fnsOf Tryz.prog f = some fn := h
    unfold fnsOf at h'
    split at h'
    · rename_i hf
      refine ⟨h', ?_⟩
      have := fns_ok
      rw [List.all_eq_true] at this
      have h2 := this f (mem_iff.1 hf)
      rw [h'] at h2
      exact h2
    · cases h'
  · have h' : (assoc (more ++ semiL) f).map semiG = some g := h1
    cases ha : assoc (more ++ semiL) f with
    | none => rw [ha] at h'; cases h'
    | some g0 =>
      rw [ha] at h'
      cases h'
      unfold semiG at h2
      split at h2
      · split at h2
        · rename_i v hv
          cases h2
          have hmem := assoc_mem ha
          rcases List.mem_append.1 hmem with hmem | hmem
          · exact hm _ hmem args _ hv
          · exact semis_ok _ hmem args _ hv
        · cases h2
      · cases h2
def isT : Option (AV × List (List AV)) → Bool
  | some (.bool true, []) => true
  | _ => false
theorem isT_eq {x : Option (AV × List (List AV))} (h : isT x = true) : x = some (.bool true, []) := by
  unfold isT at h
  split at h
  · rfl
  · cases h
/-- What a run gives is so. -/
theorem run_ok {more : List (Nat × (List AV → Option AV))} (hm : ∀ p ∈ more, ∀ (args : List AV) (v : AV), p.2 args = some v → CallOK Tryz.prog p.1 args [] v []) {n f : Nat} {args : List AV} {v : AV} (h : aCall (KD Tryz.prog more) n f args [] = some (v, [])) : CallOK Tryz.prog f args [] v [] := call_sound (kd_ok more hm) n f args [] v [] h
end Ab
end Go.Proofs.YtlmjabnkjmfcmaaGreat
/- A run on abstract values: awake is true; how a law is told by a run. -/
namespace Go.Proofs.YtlmjabnkjmfcmaaGreat
open Go Go.RowKit Go.PlainAid
set_option linter.unusedVariables false
set_option linter.unusedSimpArgs false
namespace Ab
set_option maxRecDepth 1000000 in
theorem awake_run : isT (aCall (KD Tryz.prog []) 400 10 [] []) = true := by decide +kernel
theorem awake_ok : CallOK Tryz.prog 10 [] [] (.bool true) [] := run_ok (more := []) (fun p hp => by cases hp) (isT_eq awake_run)
def awG : List AV → Option AV
  | [] => some (.bool true)
  | _ => none
theorem aw_ok : ∀ p ∈ [((10 : Nat), awG)], ∀ (args : List AV) (v : AV), p.2 args = some v → CallOK Tryz.prog p.1 args [] v [] := by
  intro p hp args v h
  obtain rfl := List.mem_singleton.1 hp
  have h' : awG args = some v := h
  unfold awG at h'
  split at h'
  · cases h'; exact awake_ok
  · cases h'
/-- A call without boxes, told plainly. -/
theorem law_of {f : Nat} {args : List AV} (h : CallOK Tryz.prog f args [] (.bool true) []) {vs : List Value} {W : World} (hR : AV.Rs (fun _ => 0) [] W args vs) (hf : AV.flats args = true) : Calls Tryz.prog f vs.toArray W fun e W' => e = .returned (.bool true) ∧ Below W.heap.size W W' := by
  have hl := AV.Rs_len hR
  have hS : ∀ k, AV.R (fun _ => 0) [] W (aS args vs k).1 (aS args vs k).2 ∧ (aS args vs k).1.flat = true := by
    intro k
    show AV.R _ _ _ (args.getD k .bad) (vs.getD k undef) ∧ (args.getD k .bad).flat = true
    rw [List.getD_eq_getElem?_getD, List.getD_eq_getElem?_getD]
    cases hx : args[k]? with
    | none => exact ⟨R_bad _, rfl⟩
    | some x =>
      obtain ⟨v, h1, h2⟩ := Rs_get hR hx
      rw [h1]
      exact ⟨h2, flats_get hf hx⟩
  have hno : ∀ p g, ¬ Own W [] [] (aS args vs) p g := by
    intro p g hp
    cases p with
    | t k =>
      obtain ⟨h1, -⟩ := hp
      rw [flat_row (hS k).2] at h1; cases h1
    | b i j => obtain ⟨b, x, y, v, h1, -⟩ := hp; simp at h1
  have H : Hold (fun _ => 0) [] W [] (aS args vs) (fun b => W.heap.size ≤ b) :=
    ⟨rfl, List.nodup_nil, (fun b hb => by cases hb), (fun b hb => by cases hb), (fun i b x hi => by simp at hi), fun k => (hS k).1, fun k => by rw [AV.top, (hS k).2]; simp, fun _ _ => rfl, fun p g hp => absurd hp (hno p g), fun p q g hp => absurd hp (hno p g)⟩
  refine (h.call (fun _ => 0) [] W vs _ hl (fun b hb => hb) H).mono ?_
  rintro e w' ⟨v, lim', bs', rfl, H', hfr, -⟩
  have h0 := H'.slot 0
  have h0' : AV.R lim' bs' w' (.bool true) v := h0
  rw [AV.R] at h0'
  subst h0'
  exact ⟨rfl, hfr.bel.os, hfr.bel.tape, hfr.bel.output, hfr.bel.size, fun k hk => (hfr.keep k hk (by omega)).1⟩
end Ab
end Go.Proofs.YtlmjabnkjmfcmaaGreat
/- Texts by hand: what is run of each. -/
namespace Go.Proofs.YtlmjabnkjmfcmaaGreat
open Go Go.RowKit Go.PlainAid
set_option linter.unusedVariables false
set_option linter.unusedSimpArgs false
namespace Ab
def oneG (s : ByteArray) (v : AV) : List AV → Option AV
  | [.str t] => if t = s then some v else none
  | _ => none
def flowG (s : ByteArray) (v : AV) : List AV → Option AV
  | [.str t, .int .i64 a, .int .i64 n, .int .i64 d] => if t = s ∧ a = 0 ∧ n = -1 ∧ d = 0 then some v else none
  | _ => none
/-- Behind Parse: with blocks, and without. -/
def two (P : Program) (k : Int) (s : ByteArray) (x : Option (AV × List (List AV))) : Bool :=
  match x with
  | some (v, []) => isT (aCall (KD P [(11, oneG s v), (10, awG)]) 400 8 [.low .i64 16 k, .bool true] []) && isT (aCall (KD P [(11, oneG s v), (10, awG)]) 400 8 [.low .i64 16 k, .bool false] [])
  | _ => false
/-- A text by hand. -/
def both (P : Program) (k : Int) (s : ByteArray) : Bool := two P k s (aCall (KD P []) 400 11 [.str s] [])
/-- A text by hand that is a collection in brackets. -/
def bothF (P : Program) (k : Int) (s : ByteArray) : Bool :=
  match aCall (KD P []) 300 128 [.str s, .int .i64 0, .int .i64 (-1), .int .i64 0] [] with
  | some (v, []) => two P k s (aCall (KD P [(128, flowG s v)]) 400 11 [.str s] [])
  | _ => false
theorem two_ok {k : Int} {s : ByteArray} {x : Option (AV × List (List AV))} (hx : ∀ v, x = some (v, []) → CallOK Tryz.prog 11 [.str s] [] v []) (h : two Tryz.prog k s x = true) (b : Bool) : CallOK Tryz.prog 8 [.low .i64 16 k, .bool b] [] (.bool true) [] := by
  unfold two at h
  split at h
  · rename_i v
    rw [Bool.and_eq_true] at h
    have hm : ∀ p ∈ [((11 : Nat), oneG s v), (10, awG)], ∀ (args : List AV) (u : AV), p.2 args = some u → CallOK Tryz.prog p.1 args [] u [] := by
      intro p hp args u hu
      rcases List.mem_cons.1 hp with rfl | hp
      · have h' : oneG s v args = some u := hu
        unfold oneG at h'
        split at h'
        · split at h'
          · rename_i e
            cases h'
            subst e
            exact hx _ rfl
          · cases h'
        · cases h'
      · exact aw_ok p hp args u hu
    cases b with
    | true => exact run_ok hm (isT_eq h.1)
    | false => exact run_ok hm (isT_eq h.2)
  · cases h
theorem both_ok {k : Int} {s : ByteArray} (h : both Tryz.prog k s = true) (b : Bool) : CallOK Tryz.prog 8 [.low .i64 16 k, .bool b] [] (.bool true) [] :=
  two_ok (fun v hv => run_ok (more := []) (fun p hp => by cases hp) hv) h b
theorem bothF_ok {k : Int} {s : ByteArray} (h : bothF Tryz.prog k s = true) (b : Bool) : CallOK Tryz.prog 8 [.low .i64 16 k, .bool b] [] (.bool true) [] := by
  unfold bothF at h
  split at h
  · rename_i v hv
    refine two_ok (fun u hu => run_ok (more := [(128, flowG s v)]) (fun p hp args u' hu' => ?_) hu) h b
    obtain rfl := List.mem_singleton.1 hp
    have h' : flowG s v args = some u' := hu'
    unfold flowG at h'
    split at h'
    · split at h'
      · rename_i e
        obtain ⟨rfl, rfl, rfl, rfl⟩ := e
        cases h'
        exact run_ok (more := []) (fun p hp => by cases hp) hv
      · cases h'
    · cases h'
  · cases h
end Ab
end Go.Proofs.YtlmjabnkjmfcmaaGreat
/- Texts by hand, run: the first eight. -/
namespace Go.Proofs.YtlmjabnkjmfcmaaGreat
open Go Go.RowKit Go.PlainAid
set_option linter.unusedVariables false
set_option linter.unusedSimpArgs false
namespace Ab
set_option maxRecDepth 1000000
theorem hand0 : bothF Tryz.prog 0 ⟨#[91, 97, 32, 35, 32, 99, 10, 93]⟩ = true := by decide +kernel
theorem hand1 : bothF Tryz.prog 1 ⟨#[91, 97, 10, 35, 32, 99, 10, 93]⟩ = true := by decide +kernel
theorem hand2 : bothF Tryz.prog 2 ⟨#[91, 97, 93, 32, 35, 32, 99]⟩ = true := by decide +kernel
theorem hand3 : both Tryz.prog 3 ⟨#[45, 32, 35, 32, 99, 10, 32, 32, 97, 10, 45, 32, 98]⟩ = true := by decide +kernel
theorem hand4 : both Tryz.prog 4 ⟨#[45, 32, 97, 10, 45, 32, 35, 32, 99, 10, 32, 32, 98]⟩ = true := by decide +kernel
theorem hand5 : both Tryz.prog 5 ⟨#[97, 58, 10, 32, 32, 35, 32, 99, 10, 32, 32, 45, 32, 98]⟩ = true := by decide +kernel
theorem hand6 : both Tryz.prog 6 ⟨#[63, 32, 91, 97, 32, 35, 32, 99, 10, 32, 32, 93, 10, 58, 32, 98]⟩ = true := by decide +kernel
theorem hand7 : both Tryz.prog 7 ⟨#[63, 32, 97, 10, 58, 32, 35, 32, 99, 10, 63, 32, 98]⟩ = true := by decide +kernel
end Ab
end Go.Proofs.YtlmjabnkjmfcmaaGreat
/- Texts by hand, run: the last eight. -/
namespace Go.Proofs.YtlmjabnkjmfcmaaGreat
open Go Go.RowKit Go.PlainAid
set_option linter.unusedVariables false
set_option linter.unusedSimpArgs false
namespace Ab
set_option maxRecDepth 1000000
theorem hand8 : both Tryz.prog 8 ⟨#[63, 32, 91, 97, 32, 35, 32, 99, 10, 32, 32, 93, 10, 63, 32, 98]⟩ = true := by decide +kernel
theorem hand9 : both Tryz.prog 9 ⟨#[63, 32, 91, 97, 32, 35, 32, 99, 10, 32, 32, 93]⟩ = true := by decide +kernel
theorem hand10 : bothF Tryz.prog 10 ⟨#[91, 91, 32, 35, 32, 99, 10, 93, 44, 32, 97, 93]⟩ = true := by decide +kernel
theorem hand11 : bothF Tryz.prog 11 ⟨#[123, 97, 58, 32, 91, 98, 32, 35, 32, 99, 10, 93, 125]⟩ = true := by decide +kernel
theorem hand12 : bothF Tryz.prog 12 ⟨#[123, 97, 58, 32, 91, 98, 93, 32, 35, 32, 99, 10, 44, 32, 100, 58, 32, 101, 125]⟩ = true := by decide +kernel
theorem hand13 : bothF Tryz.prog 13 ⟨#[123, 97, 58, 32, 91, 98, 32, 35, 32, 99, 10, 44, 32, 93, 44, 32, 100, 58, 32, 101, 125]⟩ = true := by decide +kernel
theorem hand14 : both Tryz.prog 14 ⟨#[45, 32, 91, 97, 44, 10, 32, 32, 32, 35, 32, 99, 10, 32, 32, 32, 98, 93]⟩ = true := by decide +kernel
theorem hand15 : both Tryz.prog 15 ⟨#[63, 32, 45, 32, 97, 10, 32, 32, 35, 32, 99, 10, 32, 32, 45, 32, 98, 10, 58, 32, 100]⟩ = true := by decide +kernel
end Ab
end Go.Proofs.YtlmjabnkjmfcmaaGreat
/- AttaHand: one comment stands where the document puts it, whatever the text and whether blocks are asked for. -/
namespace Go.Proofs.YtlmjabnkjmfcmaaGreat
open Go Go.RowKit Go.PlainAid
set_option linter.unusedVariables false
set_option linter.unusedSimpArgs false
namespace Ab
theorem hand_ok (n : Int) (b : Bool) : CallOK Tryz.prog 8 [.low .i64 16 (AV.lowF n 16), .bool b] [] (.bool true) [] := by
  have h1 : 0 ≤ AV.lowF n 16 := Int.emod_nonneg _ (by decide)
  have h2 : AV.lowF n 16 < 16 := Int.emod_lt_of_pos _ (by decide)
  generalize AV.lowF n 16 = k at h1 h2
  have hk : k = 0 ∨ k = 1 ∨ k = 2 ∨ k = 3 ∨ k = 4 ∨ k = 5 ∨ k = 6 ∨ k = 7 ∨ k = 8 ∨ k = 9 ∨ k = 10 ∨ k = 11 ∨ k = 12 ∨ k = 13 ∨ k = 14 ∨ k = 15 := by omega
  rcases hk with rfl | rfl | rfl | rfl | rfl | rfl | rfl | rfl | rfl | rfl | rfl | rfl | rfl | rfl | rfl | rfl
  · exact bothF_ok hand0 b
  · exact bothF_ok hand1 b
  · exact bothF_ok hand2 b
  · exact both_ok hand3 b
  · exact both_ok hand4 b
  · exact both_ok hand5 b
  · exact both_ok hand6 b
  · exact both_ok hand7 b
  · exact both_ok hand8 b
  · exact both_ok hand9 b
  · exact bothF_ok hand10 b
  · exact bothF_ok hand11 b
  · exact bothF_ok hand12 b
  · exact bothF_ok hand13 b
  · exact both_ok hand14 b
  · exact both_ok hand15 b
theorem hand_walk (a0 : Int) (a1 : Bool) (W : World) : Calls Tryz.prog 8 #[.int .i64 a0, .bool a1] W fun e W' => e = .returned (.bool true) ∧ Below W.heap.size W W' := by
  refine law_of (vs := [.int .i64 a0, .bool a1]) (hand_ok a0 a1) ?_ rfl
  simp only [AV.Rs, AV.R]
  exact ⟨_, _, rfl, ⟨a0, rfl, rfl⟩, _, _, rfl, rfl, rfl⟩
end Ab
end Go.Proofs.YtlmjabnkjmfcmaaGreat
