/- The maker: a leaf: contract. -/
import Derived.Test.YthkpoiideiimaaaMak1
namespace Go.Proofs.Ythkpoiideiimaaa
open Go Go.RowKit Go.PlainAid
set_option linter.unusedVariables false
open Bk (Fo)
namespace Bk
structure Nd where
  k : Int
  t : ByteArray
  n : Int
  kids : Fo
def Nd.fo (x : Nd) : Fo := .cons x.k x.t x.n x.kids .nil
/-- So many layouts, one behind the other. -/
def timesS (g : Nat → Nd × Nat) : Nat → Nat → Fo × Nat
  | 0, p => (.nil, p)
  | c + 1, p => ((timesS g c p).1.app (g (timesS g c p).2).1.fo, (g (timesS g c p).2).2)
/-- The kind of a layout that has something within. -/
def kindS (c : Int) : Int := if c = 6 then 5 else if c = 7 then 6 else 7
/-- A layout of numbers: which pick it is of, behind the first. -/
def leafS (z : List Int) (len : Nat) (hard : Bool) (c : Int) (q : Nat) : Nd × Nat :=
  if c < 3 then (⟨1, wordS ((pickS z len 10 q).1 : Nat), 0, .nil⟩, (pickS z len 10 q).2)
  else if c = 3 then (⟨2, ByteArray.empty, 0, .nil⟩, q)
  else if c = 4 then (⟨3, ByteArray.empty, 0, .nil⟩, q)
  else if hard then (⟨4, ByteArray.empty, 0, .nil⟩, q)
  else (⟨1, ByteArray.empty, 0, .nil⟩, q)
def numS (z : List Int) (len : Nat) (c : Int) (q : Nat) : Nat × Nat := if c = 7 then pickS z len 5 q else (0, q)
def layS (z : List Int) (len : Nat) (hard : Bool) : Nat → Nat → Nd × Nat
  | 0, p => leafS z len hard (if 5 < ((pickS z len 10 p).1 : Int) then 1 else ((pickS z len 10 p).1 : Nat)) (pickS z len 10 p).2
  | f + 1, p =>
    if 5 < ((pickS z len 10 p).1 : Int) then
      (⟨kindS ((pickS z len 10 p).1 : Nat), ByteArray.empty, ((numS z len ((pickS z len 10 p).1 : Nat) (pickS z len 10 p).2).1 : Nat),
        (timesS (layS z len hard f) (pickS z len 5 (numS z len ((pickS z len 10 p).1 : Nat) (pickS z len 10 p).2).2).1 (pickS z len 5 (numS z len ((pickS z len 10 p).1 : Nat) (pickS z len 10 p).2).2).2).1⟩,
       (timesS (layS z len hard f) (pickS z len 5 (numS z len ((pickS z len 10 p).1 : Nat) (pickS z len 10 p).2).2).1 (pickS z len 5 (numS z len ((pickS z len 10 p).1 : Nat) (pickS z len 10 p).2).2).2).2)
    else leafS z len hard ((pickS z len 10 p).1 : Nat) (pickS z len 10 p).2
end Bk
/-- What a layout of numbers leaves. -/
def LayPost (mb : Nat) (a : Option Addr) (len cap : Nat) (z : List Int) (x : Bk.Nd × Nat) (w : World) (e : Ending) (w' : World) : Prop :=
  ∃ a' cp', e = .returned (.agg #[.int .i64 x.1.k, .string x.1.t, .int .i64 x.1.n, .slice a' x.1.kids.len cp']) ∧ SlAt w' (fun i => w.heap.size ≤ i) a' x.1.kids ∧ Mk mb a len cap z x.2 w' ∧ MStay mb w w'
def PickAt (mb : Nat) (a : Option Addr) (len cap : Nat) (z : List Int) (c : Int) (q : Nat) (w : World) (e : Ending) (w' : World) : Prop :=
  e = .returned (.int .i64 c) ∧ Mk mb a len cap z q w' ∧ MStay mb w w'
theorem pick_at (mb : Nat) (a : Option Addr) (len cap : Nat) (z : List Int) (n : Int) (p : Nat) (c : Int) (q : Nat) (w : World) (hn : 1 ≤ n) (hn' : n ≤ 1000000000) (h : Mk mb a len cap z p w) (hp : p ≤ len) (hl : len ≤ 1000) (hc : c = (Bk.pickS z len n p).1) (hq : q = (Bk.pickS z len n p).2) :
    Calls Try.prog 27 #[.pointer (some ⟨mb, 0, none⟩), .int .i64 n] w (PickAt mb a len cap z c q w) := by
  subst hc hq
  exact (pick_any mb a len cap z n p w hn hn' h hp hl).mono fun e w' h => ⟨h.1, h.2.1, h.2.2⟩
/-- What a walk is told of a block of a layout. -/
theorem lay_cells {w w' : World} {mb : Nat} {x0 x1 x2 x3 : Value} (hs : MStay mb (w.alloc (.cells #[x0, x1, x2, x3] 26)) w') (hm : mb < w.heap.size) :
    w'.cell? ⟨w.heap.size, 0, none⟩ = some x0 ∧ w'.cell? ⟨w.heap.size, 1, none⟩ = some x1 ∧ w'.cell? ⟨w.heap.size, 2, none⟩ = some x2 ∧ w'.cell? ⟨w.heap.size, 3, none⟩ = some x3 ∧
    w'.frozen? ⟨w.heap.size, 0, none⟩ = false ∧ w'.frozen? ⟨w.heap.size, 1, none⟩ = false ∧ w'.frozen? ⟨w.heap.size, 2, none⟩ = false ∧ w'.frozen? ⟨w.heap.size, 3, none⟩ = false ∧ w'.heap[w.heap.size]? = some (.cells #[x0, x1, x2, x3] 26 (0, 0)) := by
  have hb : w'.heap[w.heap.size]? = some (.cells #[x0, x1, x2, x3] 26 (0, 0)) := (hs.blk w.heap.size (by simp) (by omega)).trans (heap_alloc_new w _)
  refine ⟨?_, ?_, ?_, ?_, Lib.frozen_of_heap hb 0, Lib.frozen_of_heap hb 1, Lib.frozen_of_heap hb 2, Lib.frozen_of_heap hb 3, hb⟩
  all_goals (rw [Lib.cell_of_heap hb]; rfl)
theorem Mk.put {mb : Nat} {a : Option Addr} {len cap : Nat} {z : List Int} {p : Nat} {w : World} (h : Mk mb a len cap z p w) {i : Nat} (hi : mb < i) (o : Nat) (u : Value) : Mk mb a len cap z p (w.setCell ⟨i, o, none⟩ u) := by
  refine ⟨(Below.heap_setCell _ _ _ _ (by show mb ≠ i; omega)).trans h.blk, ?_⟩
  rcases h.ints with h0 | ⟨b, off, rfl, hb, hc⟩
  · exact .inl h0
  · exact .inr ⟨b, off, rfl, hb, fun j hj => (World.cell?_of_block (Below.heap_setCell _ _ _ _ (by show b ≠ i; omega))).trans (hc j hj)⟩
theorem MStay.put {mb : Nat} {w w1 : World} (h : MStay mb w w1) {i : Nat} (hi : w.heap.size ≤ i) (hm : mb < w.heap.size) (o : Nat) (u : Value) : MStay mb w (w1.setCell ⟨i, o, none⟩ u) :=
  ⟨h.below.setCell (p := ⟨i, o, none⟩) (by show mb ≤ i; omega) u, fun j hj hn => (Below.heap_setCell _ _ _ _ (by show j ≠ i; omega)).trans (h.blk j hj hn)⟩
theorem MStay.from_alloc {mb : Nat} {w w1 : World} {o : Obj} (h : MStay mb (w.alloc o) w1) (hm : mb < w.heap.size) : MStay mb w w1 := (MStay.of_below ((Below.refl _ _).alloc (Nat.le_refl _) _) hm).trans h
theorem lay_post {mb : Nat} {a : Option Addr} {len cap : Nat} {z : List Int} {x : Bk.Nd × Nat} {w w' : World} {k n : Int} {t : ByteArray} {a' : Option Addr} {cp' : Nat} {kids : Fo} {q : Nat} (hx : x = (⟨k, t, n, kids⟩, q)) (hs : SlAt w' (fun i => w.heap.size ≤ i) a' kids) (hm : Mk mb a len cap z q w') (hst : MStay mb w w') :
    LayPost mb a len cap z x w (.returned (.agg #[.int .i64 k, .string t, .int .i64 n, .slice a' kids.len cp'])) w' := by
  subst hx; exact ⟨a', cp', rfl, hs, hm, hst⟩
set_option maxRecDepth 100000 in
set_option maxHeartbeats 4000000 in
theorem lay_over (mb : Nat) (a : Option Addr) (len cap : Nat) (z : List Int) (p q : Nat) (hard : Bool) (d c : Int) (w : World) (h : Mk mb a len cap z p w) (hp : p ≤ len) (hl : len ≤ 1000) (hc : c = (Bk.pickS z len 10 p).1) (hq : q = (Bk.pickS z len 10 p).2) (h5 : 5 < c) (hd : 5 < d) :
    Calls Try.prog 21 #[.pointer (some ⟨mb, 0, none⟩), .int .i64 d, .bool hard] w (LayPost mb a len cap z (Bk.leafS z len hard 1 q) w) := by
  have hlt := h.lt
  have H := Lib.hid h
  have HA := Lib.hid ((Below.refl w.heap.size w).alloc (Nat.le_refl _) (.cells #[.int .i64 0, .string ByteArray.empty, .int .i64 0, .slice none 0 0] 26))
  have HC := Lib.hid hc
  have HQ := Lib.hid hq
  have HQL : Hid (q ≤ len) := Lib.hid (by rw [hq]; exact (Bk.pick_le hp).2.1)
  obtain ⟨c2, hc2⟩ : ∃ c2 : Int, c2 = (Bk.pickS z len 10 q).1 := ⟨_, rfl⟩
  obtain ⟨q2, hq2⟩ : ∃ q2, q2 = (Bk.pickS z len 10 q).2 := ⟨_, rfl⟩
  have HC2 := Lib.hid hc2
  have HQ2 := Lib.hid hq2
  obtain ⟨ws, hws⟩ : ∃ ws, ws = Bk.wordS c2 := ⟨_, rfl⟩
  have HWS := Lib.hid hws
  clear hc2 hq2 hws
  clear h hc hq
  have HX : Hid (Bk.leafS z len hard 1 q = (⟨1, ws, 0, .nil⟩, q2)) := Lib.hid (by unfold Bk.leafS; rw [if_pos (by omega), ← HC2.out, ← HQ2.out, ← HWS.out])
  all_goals
    go_enter Try.func21, Try.ntmps21
    go_wp2_with first
      | (go_at_call 27; (refine (pick_at mb a len cap z 10 q c2 q2 _ (by omega) (by omega) HM.out HQL.out hl HC2.out HQ2.out).mono ?_); rintro e w2 ⟨rfl, hm2, hs2⟩; have HM2 := Lib.hid hm2; have HS2 := Lib.hid (HS.out.trans hs2); have hsz2 := hs2.below.size; clear r0 r1 r2 r3 f0 f1 f2 f3; obtain ⟨r0, r1, r2, r3, f0, f1, f2, f3, rb⟩ := lay_cells HS2.out hlt; clear hm2 hs2 rb)
      | (go_at_call 27; (refine (pick_at mb a len cap z 10 p c q _ (by omega) (by omega) (H.out.below HA.out) hp hl HC.out HQ.out).mono ?_); rintro e w1 ⟨rfl, hm1, hs1⟩; have HM := Lib.hid hm1; have HS := Lib.hid hs1; have hsz := hs1.below.size; simp at hsz; obtain ⟨r0, r1, r2, r3, f0, f1, f2, f3, rb⟩ := lay_cells hs1 hlt; clear hm1 hs1 rb)
      | (go_at_call 16; refine (wordOf_any c2 _).mono ?_; rintro e w3 ⟨rfl, hg3⟩; rw [← HWS.out]; have HM3 := Lib.hid (HM2.out.below hg3); have HS3 := Lib.hid (HS2.out.trans (MStay.of_below hg3 HM2.out.lt)); have hsz3 := hg3.size; clear r0 r1 r2 r3 f0 f1 f2 f3; obtain ⟨r0, r1, r2, r3, f0, f1, f2, f3, rb⟩ := lay_cells HS3.out hlt; clear hg3 rb)
    exact bodyPost_ret (v := .agg #[.int .i64 1, .string ws, .int .i64 0, .slice none 0 0]) (by simp [results, Try.results21, go_sem, r0, r1, r2, r3] <;> rfl) rfl (lay_post (kids := .nil) HX.out (.inl rfl) ((((HM3.out.put hlt 0 _).put hlt 1 _).put hlt 2 _).put hlt 3 _) (((((HS3.out.from_alloc hlt).put (Nat.le_refl _) hlt 0 _).put (Nat.le_refl _) hlt 1 _).put (Nat.le_refl _) hlt 2 _).put (Nat.le_refl _) hlt 3 _))
set_option maxRecDepth 100000 in
set_option maxHeartbeats 4000000 in
theorem lay_text (mb : Nat) (a : Option Addr) (len cap : Nat) (z : List Int) (p q : Nat) (hard : Bool) (d c : Int) (w : World) (h : Mk mb a len cap z p w) (hp : p ≤ len) (hl : len ≤ 1000) (hc : c = (Bk.pickS z len 10 p).1) (hq : q = (Bk.pickS z len 10 p).2) (h0 : 0 ≤ c) (h3 : c < 3) :
    Calls Try.prog 21 #[.pointer (some ⟨mb, 0, none⟩), .int .i64 d, .bool hard] w (LayPost mb a len cap z (Bk.leafS z len hard c q) w) := by
  have hlt := h.lt
  have H := Lib.hid h
  have HA := Lib.hid ((Below.refl w.heap.size w).alloc (Nat.le_refl _) (.cells #[.int .i64 0, .string ByteArray.empty, .int .i64 0, .slice none 0 0] 26))
  have HC := Lib.hid hc
  have HQ := Lib.hid hq
  have HQL : Hid (q ≤ len) := Lib.hid (by rw [hq]; exact (Bk.pick_le hp).2.1)
  obtain ⟨c2, hc2⟩ : ∃ c2 : Int, c2 = (Bk.pickS z len 10 q).1 := ⟨_, rfl⟩
  obtain ⟨q2, hq2⟩ : ∃ q2, q2 = (Bk.pickS z len 10 q).2 := ⟨_, rfl⟩
  have HC2 := Lib.hid hc2
  have HQ2 := Lib.hid hq2
  obtain ⟨ws, hws⟩ : ∃ ws, ws = Bk.wordS c2 := ⟨_, rfl⟩
  have HWS := Lib.hid hws
  clear hc2 hq2 hws
  clear h hc hq
  have HX : Hid (Bk.leafS z len hard c q = (⟨1, ws, 0, .nil⟩, q2)) := Lib.hid (by unfold Bk.leafS; rw [if_pos (by omega), ← HC2.out, ← HQ2.out, ← HWS.out])
  by_cases hd5 : 5 < d
  all_goals
    go_enter Try.func21, Try.ntmps21
    go_wp2_with first
      | (go_at_call 27; (refine (pick_at mb a len cap z 10 q c2 q2 _ (by omega) (by omega) HM.out HQL.out hl HC2.out HQ2.out).mono ?_); rintro e w2 ⟨rfl, hm2, hs2⟩; have HM2 := Lib.hid hm2; have HS2 := Lib.hid (HS.out.trans hs2); have hsz2 := hs2.below.size; clear r0 r1 r2 r3 f0 f1 f2 f3; obtain ⟨r0, r1, r2, r3, f0, f1, f2, f3, rb⟩ := lay_cells HS2.out hlt; clear hm2 hs2 rb)
      | (go_at_call 27; (refine (pick_at mb a len cap z 10 p c q _ (by omega) (by omega) (H.out.below HA.out) hp hl HC.out HQ.out).mono ?_); rintro e w1 ⟨rfl, hm1, hs1⟩; have HM := Lib.hid hm1; have HS := Lib.hid hs1; have hsz := hs1.below.size; simp at hsz; obtain ⟨r0, r1, r2, r3, f0, f1, f2, f3, rb⟩ := lay_cells hs1 hlt; clear hm1 hs1 rb)
      | (go_at_call 16; refine (wordOf_any c2 _).mono ?_; rintro e w3 ⟨rfl, hg3⟩; rw [← HWS.out]; have HM3 := Lib.hid (HM2.out.below hg3); have HS3 := Lib.hid (HS2.out.trans (MStay.of_below hg3 HM2.out.lt)); have hsz3 := hg3.size; clear r0 r1 r2 r3 f0 f1 f2 f3; obtain ⟨r0, r1, r2, r3, f0, f1, f2, f3, rb⟩ := lay_cells HS3.out hlt; clear hg3 rb)
    exact bodyPost_ret (v := .agg #[.int .i64 1, .string ws, .int .i64 0, .slice none 0 0]) (by simp [results, Try.results21, go_sem, r0, r1, r2, r3] <;> rfl) rfl (lay_post (kids := .nil) HX.out (.inl rfl) ((((HM3.out.put hlt 0 _).put hlt 1 _).put hlt 2 _).put hlt 3 _) (((((HS3.out.from_alloc hlt).put (Nat.le_refl _) hlt 0 _).put (Nat.le_refl _) hlt 1 _).put (Nat.le_refl _) hlt 2 _).put (Nat.le_refl _) hlt 3 _))
set_option maxRecDepth 100000 in
set_option maxHeartbeats 4000000 in
theorem lay_line (mb : Nat) (a : Option Addr) (len cap : Nat) (z : List Int) (p q : Nat) (hard : Bool) (d c : Int) (w : World) (h : Mk mb a len cap z p w) (hp : p ≤ len) (hl : len ≤ 1000) (hc : (3 : Int) = (Bk.pickS z len 10 p).1) (hq : q = (Bk.pickS z len 10 p).2) :
    Calls Try.prog 21 #[.pointer (some ⟨mb, 0, none⟩), .int .i64 d, .bool hard] w (LayPost mb a len cap z (Bk.leafS z len hard 3 q) w) := by
  have hlt := h.lt
  have H := Lib.hid h
  have HA := Lib.hid ((Below.refl w.heap.size w).alloc (Nat.le_refl _) (.cells #[.int .i64 0, .string ByteArray.empty, .int .i64 0, .slice none 0 0] 26))
  have HC := Lib.hid hc
  have HQ := Lib.hid hq
  have HQL : Hid (q ≤ len) := Lib.hid (by rw [hq]; exact (Bk.pick_le hp).2.1)
  clear h hc hq
  have HX : Hid (Bk.leafS z len hard 3 q = (⟨2, ByteArray.empty, 0, .nil⟩, q)) := Lib.hid rfl
  by_cases hd5 : 5 < d
  all_goals
    go_enter Try.func21, Try.ntmps21
    go_wp2_with first
      | (go_at_call 27; (refine (pick_at mb a len cap z 10 p 3 q _ (by omega) (by omega) (H.out.below HA.out) hp hl HC.out HQ.out).mono ?_); rintro e w1 ⟨rfl, hm1, hs1⟩; have HM := Lib.hid hm1; have HS := Lib.hid hs1; have hsz := hs1.below.size; simp at hsz; obtain ⟨r0, r1, r2, r3, f0, f1, f2, f3, rb⟩ := lay_cells hs1 hlt; clear hm1 hs1 rb)
    exact bodyPost_ret (v := .agg #[.int .i64 2, .string ByteArray.empty, .int .i64 0, .slice none 0 0]) (by simp [results, Try.results21, go_sem, r0, r1, r2, r3] <;> rfl) rfl (lay_post (kids := .nil) HX.out (.inl rfl) ((((HM.out.put hlt 0 _).put hlt 1 _).put hlt 2 _).put hlt 3 _) (((((HS.out.from_alloc hlt).put (Nat.le_refl _) hlt 0 _).put (Nat.le_refl _) hlt 1 _).put (Nat.le_refl _) hlt 2 _).put (Nat.le_refl _) hlt 3 _))
set_option maxRecDepth 100000 in
set_option maxHeartbeats 4000000 in
theorem lay_soft (mb : Nat) (a : Option Addr) (len cap : Nat) (z : List Int) (p q : Nat) (hard : Bool) (d c : Int) (w : World) (h : Mk mb a len cap z p w) (hp : p ≤ len) (hl : len ≤ 1000) (hc : (4 : Int) = (Bk.pickS z len 10 p).1) (hq : q = (Bk.pickS z len 10 p).2) :
    Calls Try.prog 21 #[.pointer (some ⟨mb, 0, none⟩), .int .i64 d, .bool hard] w (LayPost mb a len cap z (Bk.leafS z len hard 4 q) w) := by
  have hlt := h.lt
  have H := Lib.hid h
  have HA := Lib.hid ((Below.refl w.heap.size w).alloc (Nat.le_refl _) (.cells #[.int .i64 0, .string ByteArray.empty, .int .i64 0, .slice none 0 0] 26))
  have HC := Lib.hid hc
  have HQ := Lib.hid hq
  have HQL : Hid (q ≤ len) := Lib.hid (by rw [hq]; exact (Bk.pick_le hp).2.1)
  clear h hc hq
  have HX : Hid (Bk.leafS z len hard 4 q = (⟨3, ByteArray.empty, 0, .nil⟩, q)) := Lib.hid rfl
  by_cases hd5 : 5 < d
  all_goals
    go_enter Try.func21, Try.ntmps21
    go_wp2_with first
      | (go_at_call 27; (refine (pick_at mb a len cap z 10 p 4 q _ (by omega) (by omega) (H.out.below HA.out) hp hl HC.out HQ.out).mono ?_); rintro e w1 ⟨rfl, hm1, hs1⟩; have HM := Lib.hid hm1; have HS := Lib.hid hs1; have hsz := hs1.below.size; simp at hsz; obtain ⟨r0, r1, r2, r3, f0, f1, f2, f3, rb⟩ := lay_cells hs1 hlt; clear hm1 hs1 rb)
    exact bodyPost_ret (v := .agg #[.int .i64 3, .string ByteArray.empty, .int .i64 0, .slice none 0 0]) (by simp [results, Try.results21, go_sem, r0, r1, r2, r3] <;> rfl) rfl (lay_post (kids := .nil) HX.out (.inl rfl) ((((HM.out.put hlt 0 _).put hlt 1 _).put hlt 2 _).put hlt 3 _) (((((HS.out.from_alloc hlt).put (Nat.le_refl _) hlt 0 _).put (Nat.le_refl _) hlt 1 _).put (Nat.le_refl _) hlt 2 _).put (Nat.le_refl _) hlt 3 _))
set_option maxRecDepth 100000 in
set_option maxHeartbeats 4000000 in
theorem lay_hard (mb : Nat) (a : Option Addr) (len cap : Nat) (z : List Int) (p q : Nat) (hard : Bool) (d c : Int) (w : World) (h : Mk mb a len cap z p w) (hp : p ≤ len) (hl : len ≤ 1000) (hc : (5 : Int) = (Bk.pickS z len 10 p).1) (hq : q = (Bk.pickS z len 10 p).2) (hh : hard = true) :
    Calls Try.prog 21 #[.pointer (some ⟨mb, 0, none⟩), .int .i64 d, .bool hard] w (LayPost mb a len cap z (Bk.leafS z len hard 5 q) w) := by
  have hlt := h.lt
  have H := Lib.hid h
  have HA := Lib.hid ((Below.refl w.heap.size w).alloc (Nat.le_refl _) (.cells #[.int .i64 0, .string ByteArray.empty, .int .i64 0, .slice none 0 0] 26))
  have HC := Lib.hid hc
  have HQ := Lib.hid hq
  have HQL : Hid (q ≤ len) := Lib.hid (by rw [hq]; exact (Bk.pick_le hp).2.1)
  clear h hc hq
  subst hh
  have HX : Hid (Bk.leafS z len true 5 q = (⟨4, ByteArray.empty, 0, .nil⟩, q)) := Lib.hid rfl
  by_cases hd5 : 5 < d
  all_goals
    go_enter Try.func21, Try.ntmps21
    go_wp2_with first
      | (go_at_call 27; (refine (pick_at mb a len cap z 10 p 5 q _ (by omega) (by omega) (H.out.below HA.out) hp hl HC.out HQ.out).mono ?_); rintro e w1 ⟨rfl, hm1, hs1⟩; have HM := Lib.hid hm1; have HS := Lib.hid hs1; have hsz := hs1.below.size; simp at hsz; obtain ⟨r0, r1, r2, r3, f0, f1, f2, f3, rb⟩ := lay_cells hs1 hlt; clear hm1 hs1 rb)
    exact bodyPost_ret (v := .agg #[.int .i64 4, .string ByteArray.empty, .int .i64 0, .slice none 0 0]) (by simp [results, Try.results21, go_sem, r0, r1, r2, r3] <;> rfl) rfl (lay_post (kids := .nil) HX.out (.inl rfl) ((((HM.out.put hlt 0 _).put hlt 1 _).put hlt 2 _).put hlt 3 _) (((((HS.out.from_alloc hlt).put (Nat.le_refl _) hlt 0 _).put (Nat.le_refl _) hlt 1 _).put (Nat.le_refl _) hlt 2 _).put (Nat.le_refl _) hlt 3 _))
set_option maxRecDepth 100000 in
set_option maxHeartbeats 4000000 in
theorem lay_empty (mb : Nat) (a : Option Addr) (len cap : Nat) (z : List Int) (p q : Nat) (hard : Bool) (d c : Int) (w : World) (h : Mk mb a len cap z p w) (hp : p ≤ len) (hl : len ≤ 1000) (hc : (5 : Int) = (Bk.pickS z len 10 p).1) (hq : q = (Bk.pickS z len 10 p).2) (hh : hard = false) :
    Calls Try.prog 21 #[.pointer (some ⟨mb, 0, none⟩), .int .i64 d, .bool hard] w (LayPost mb a len cap z (Bk.leafS z len hard 5 q) w) := by
  have hlt := h.lt
  have H := Lib.hid h
  have HA := Lib.hid ((Below.refl w.heap.size w).alloc (Nat.le_refl _) (.cells #[.int .i64 0, .string ByteArray.empty, .int .i64 0, .slice none 0 0] 26))
  have HC := Lib.hid hc
  have HQ := Lib.hid hq
  have HQL : Hid (q ≤ len) := Lib.hid (by rw [hq]; exact (Bk.pick_le hp).2.1)
  clear h hc hq
  subst hh
  have HX : Hid (Bk.leafS z len false 5 q = (⟨1, ByteArray.empty, 0, .nil⟩, q)) := Lib.hid rfl
  by_cases hd5 : 5 < d
  all_goals
    go_enter Try.func21, Try.ntmps21
    go_wp2_with first
      | (go_at_call 27; (refine (pick_at mb a len cap z 10 p 5 q _ (by omega) (by omega) (H.out.below HA.out) hp hl HC.out HQ.out).mono ?_); rintro e w1 ⟨rfl, hm1, hs1⟩; have HM := Lib.hid hm1; have HS := Lib.hid hs1; have hsz := hs1.below.size; simp at hsz; obtain ⟨r0, r1, r2, r3, f0, f1, f2, f3, rb⟩ := lay_cells hs1 hlt; clear hm1 hs1 rb)
    exact bodyPost_ret (v := .agg #[.int .i64 1, .string ByteArray.empty, .int .i64 0, .slice none 0 0]) (by simp [results, Try.results21, go_sem, r0, r1, r2, r3] <;> rfl) rfl (lay_post (kids := .nil) HX.out (.inl rfl) ((((HM.out.put hlt 0 _).put hlt 1 _).put hlt 2 _).put hlt 3 _) (((((HS.out.from_alloc hlt).put (Nat.le_refl _) hlt 0 _).put (Nat.le_refl _) hlt 1 _).put (Nat.le_refl _) hlt 2 _).put (Nat.le_refl _) hlt 3 _))
end Go.Proofs.Ythkpoiideiimaaa
