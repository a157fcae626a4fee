/- Layouts in memory, and pieces in memory: what a walk is told of them. -/
import Derived.Test.YthkpoiideiimaaaLay4
import Derived.Deep.RegionHeld3
namespace Go.Proofs.Ythkpoiideiimaaa
open Go Go.RowKit Go.PlainAid
set_option linter.unusedVariables false
open Bk (Fo)
/-- What memory holds of layouts in a row of four cells each; ok: which blocks those within may lie in. -/
def RowAt (w : World) (ok : Nat → Prop) : Fo → Nat → Nat → Prop
  | .nil, _, _ => True
  | .cons k t n kids rest, b, off => w.cell? ⟨b, off, none⟩ = some (.int .i64 k) ∧ w.cell? ⟨b, off + 1, none⟩ = some (.string t) ∧ w.cell? ⟨b, off + 2, none⟩ = some (.int .i64 n) ∧
    (∃ a cp, w.cell? ⟨b, off + 3, none⟩ = some (.slice a kids.len cp) ∧ (kids.len = 0 ∨ ∃ b' off', a = some ⟨b', off', none⟩ ∧ b' < w.heap.size ∧ ok b' ∧ RowAt w ok kids b' off')) ∧ RowAt w ok rest b (off + 4)
def SlAt (w : World) (ok : Nat → Prop) (a : Option Addr) (F : Fo) : Prop := F.len = 0 ∨ ∃ b off, a = some ⟨b, off, none⟩ ∧ b < w.heap.size ∧ ok b ∧ RowAt w ok F b off
/-- All blocks that are ok stand as they stood. -/
def Agree (ok : Nat → Prop) (w w' : World) : Prop := w.heap.size ≤ w'.heap.size ∧ ∀ i, i < w.heap.size → ok i → w'.heap[i]? = w.heap[i]?
theorem Agree.cell {ok : Nat → Prop} {w w' : World} (h : Agree ok w w') {b o : Nat} (hb : b < w.heap.size) (hk : ok b) : w'.cell? ⟨b, o, none⟩ = w.cell? ⟨b, o, none⟩ := World.cell?_of_block (h.2 b hb hk)
theorem agree_below {ok : Nat → Prop} {w w' : World} (k : Below w.heap.size w w') : Agree ok w w' := ⟨k.size, fun i hi _ => k.block i hi⟩
theorem agree_grown {w w' : World} {r : Option Nat} {ok : Nat → Prop} (h : w.grownBy w' r) (hr : ∀ i, ok i → some i ≠ r) : Agree ok w w' := ⟨h.size, fun i hi hk => h.block i hi (hr i hk)⟩
theorem RowAt.agree {w w' : World} {ok : Nat → Prop} (k : Agree ok w w') : ∀ {F : Fo} {b off : Nat}, b < w.heap.size → ok b → RowAt w ok F b off → RowAt w' ok F b off := by
  intro F
  induction F with
  | nil => intro b off _ _ _; exact trivial
  | cons kd t n kids rest ihk ihr =>
    intro b off hb hk h
    obtain ⟨h1, h2, h3, ⟨a, cp, h4, h5⟩, h6⟩ := h
    refine ⟨(k.cell hb hk).trans h1, (k.cell hb hk).trans h2, (k.cell hb hk).trans h3, ⟨a, cp, (k.cell hb hk).trans h4, ?_⟩, ihr hb hk h6⟩
    rcases h5 with h5 | ⟨b', off', rfl, hb', hk', h5⟩
    · exact .inl h5
    · exact .inr ⟨b', off', rfl, Nat.lt_of_lt_of_le hb' k.1, hk', ihk hb' hk' h5⟩
theorem SlAt.agree {w w' : World} {ok : Nat → Prop} {a : Option Addr} {F : Fo} (h : SlAt w ok a F) (k : Agree ok w w') : SlAt w' ok a F := by
  rcases h with h | ⟨b, off, rfl, hb, hk, h⟩
  · exact .inl h
  · exact .inr ⟨b, off, rfl, Nat.lt_of_lt_of_le hb k.1, hk, h.agree k hb hk⟩
theorem SlAt.below {w w' : World} {ok : Nat → Prop} {a : Option Addr} {F : Fo} (h : SlAt w ok a F) (k : Below w.heap.size w w') : SlAt w' ok a F := h.agree (agree_below k)
theorem RowAt.weak {w : World} {ok ok' : Nat → Prop} (hok : ∀ i, i < w.heap.size → ok i → ok' i) : ∀ {F : Fo} {b off : Nat}, RowAt w ok F b off → RowAt w ok' F b off := by
  intro F
  induction F with
  | nil => intro b off _; exact trivial
  | cons kd t n kids rest ihk ihr =>
    intro b off h
    obtain ⟨h1, h2, h3, ⟨a, cp, h4, h5⟩, h6⟩ := h
    refine ⟨h1, h2, h3, ⟨a, cp, h4, ?_⟩, ihr h6⟩
    rcases h5 with h5 | ⟨b', off', rfl, hb', hk', h5⟩
    · exact .inl h5
    · exact .inr ⟨b', off', rfl, hb', hok b' hb' hk', ihk h5⟩
theorem SlAt.weak {w : World} {ok ok' : Nat → Prop} {a : Option Addr} {F : Fo} (h : SlAt w ok a F) (hok : ∀ i, i < w.heap.size → ok i → ok' i) : SlAt w ok' a F := by
  rcases h with h | ⟨b, off, rfl, hb, hk, h⟩
  · exact .inl h
  · exact .inr ⟨b, off, rfl, hb, hok b hb hk, h.weak hok⟩
/-- The value of a piece. -/
def PcV (F : Option Addr → Prop) (k : Int) (t : ByteArray) (n : Int) (len : Nat) (v : Value) : Prop :=
  (k = 1 ∧ v = .iface 63 (.string t)) ∨ (k = 2 ∧ v = .iface 65 (.agg #[.string ⟨#[32]⟩])) ∨ (k = 3 ∧ v = .iface 65 (.agg #[.string ⟨#[]⟩])) ∨ (k = 4 ∧ v = .iface 67 (.agg #[])) ∨
  ((k = 5 ∨ k = 6 ∨ k = 7) ∧ ∃ a cp, v = .iface 71 (.agg #[.int .i64 (if k = 6 then Bk.clampN n else 0), .bool (k == 7), .slice a len cp]) ∧ F a)
/-- What memory holds of the pieces of layouts, in a row of one cell each. -/
def PRow (w : World) (ok : Nat → Prop) : Fo → Nat → Nat → Prop
  | .nil, _, _ => True
  | .cons k t n kids rest, b, off => (∃ v, w.cell? ⟨b, off, none⟩ = some v ∧
    PcV (fun a => kids.len = 0 ∨ ∃ b' off', a = some ⟨b', off', none⟩ ∧ b' < w.heap.size ∧ ok b' ∧ PRow w ok kids b' off') k t n kids.len v) ∧ PRow w ok rest b (off + 1)
def PSl (w : World) (ok : Nat → Prop) (F : Fo) (a : Option Addr) : Prop := F.len = 0 ∨ ∃ b off, a = some ⟨b, off, none⟩ ∧ b < w.heap.size ∧ ok b ∧ PRow w ok F b off
theorem PcV.mono {F G : Option Addr → Prop} {k : Int} {t : ByteArray} {n : Int} {len : Nat} {v : Value} (h : PcV F k t n len v) (hFG : ∀ a, F a → G a) : PcV G k t n len v := by
  rcases h with h | h | h | h | ⟨h, a, cp, h1, h2⟩
  · exact .inl h
  · exact .inr (.inl h)
  · exact .inr (.inr (.inl h))
  · exact .inr (.inr (.inr (.inl h)))
  · exact .inr (.inr (.inr (.inr ⟨h, a, cp, h1, hFG _ h2⟩)))
theorem PRow.agree {w w' : World} {ok : Nat → Prop} (k : Agree ok w w') : ∀ {F : Fo} {b off : Nat}, b < w.heap.size → ok b → PRow w ok F b off → PRow w' ok F b off := by
  intro F
  induction F with
  | nil => intro b off _ _ _; exact trivial
  | cons kd t n kids rest ihk ihr =>
    intro b off hb hk h
    obtain ⟨⟨v, h1, h2⟩, h3⟩ := h
    refine ⟨⟨v, (k.cell hb hk).trans h1, h2.mono fun a ha => ?_⟩, ihr hb hk h3⟩
    rcases ha with h5 | ⟨b', off', rfl, hb', hk', h5⟩
    · exact .inl h5
    · exact .inr ⟨b', off', rfl, Nat.lt_of_lt_of_le hb' k.1, hk', ihk hb' hk' h5⟩
theorem PSl.agree {w w' : World} {ok : Nat → Prop} {F : Fo} {a : Option Addr} (h : PSl w ok F a) (k : Agree ok w w') : PSl w' ok F a := by
  rcases h with h | ⟨b, off, rfl, hb, hk, h⟩
  · exact .inl h
  · exact .inr ⟨b, off, rfl, Nat.lt_of_lt_of_le hb k.1, hk, h.agree k hb hk⟩
theorem PSl.below {w w' : World} {ok : Nat → Prop} {F : Fo} {a : Option Addr} (h : PSl w ok F a) (k : Below w.heap.size w w') : PSl w' ok F a := h.agree (agree_below k)
theorem PRow.weak {w : World} {ok ok' : Nat → Prop} (hok : ∀ i, i < w.heap.size → ok i → ok' i) : ∀ {F : Fo} {b off : Nat}, PRow w ok F b off → PRow w ok' F b off := by
  intro F
  induction F with
  | nil => intro b off _; exact trivial
  | cons kd t n kids rest ihk ihr =>
    intro b off h
    obtain ⟨⟨v, h1, h2⟩, h3⟩ := h
    refine ⟨⟨v, h1, h2.mono fun a ha => ?_⟩, ihr h3⟩
    rcases ha with h5 | ⟨b', off', rfl, hb', hk', h5⟩
    · exact .inl h5
    · exact .inr ⟨b', off', rfl, hb', hok b' hb' hk', ihk h5⟩
theorem PSl.weak {w : World} {ok ok' : Nat → Prop} {F : Fo} {a : Option Addr} (h : PSl w ok F a) (hok : ∀ i, i < w.heap.size → ok i → ok' i) : PSl w ok' F a := by
  rcases h with h | ⟨b, off, rfl, hb, hk, h⟩
  · exact .inl h
  · exact .inr ⟨b, off, rfl, hb, hok b hb hk, h.weak hok⟩
/-- What 'of' and 'kids' hand back. -/
def OfPost (k : Int) (t : ByteArray) (n : Int) (kids : Fo) (w : World) (e : Ending) (w' : World) : Prop :=
  ∃ v, e = .returned v ∧ PcV (PSl w' (fun i => w.heap.size ≤ i) kids) k t n kids.len v ∧ Below w.heap.size w w'
def KidsPost (F : Fo) (w : World) (e : Ending) (w' : World) : Prop :=
  ∃ a' cp', e = .returned (.slice a' F.len cp') ∧ PSl w' (fun i => w.heap.size ≤ i) F a' ∧ Below w.heap.size w w'
def KidsC (F : Fo) : Prop := ∀ (a : Option Addr) (cp : Nat) (w : World), SlAt w (fun _ => True) a F → Calls Try.prog 28 #[.slice a F.len cp] w (KidsPost F w)
theorem clamp_is {n : Int} (h0 : 0 ≤ n) (h1 : n ≤ 10000) : Bk.clampN n = n := by unfold Bk.clampN; omega
theorem of_post {k n : Int} {t : ByteArray} {kids : Fo} {w w' : World} {e : Ending} {v : Value} (he : e = .returned v) (h1 : PcV (PSl w' (fun i => w.heap.size ≤ i) kids) k t n kids.len v) (h2 : Below w.heap.size w w') : OfPost k t n kids w e w' := ⟨v, he, h1, h2⟩
set_option maxHeartbeats 3200000 in
theorem of_any (k n : Int) (t : ByteArray) (kids : Fo) (a : Option Addr) (cp : Nat) (w : World) (hk : 1 ≤ k ∧ k ≤ 7) (hn : 0 ≤ n ∧ n ≤ 10000) (hs : SlAt w (fun _ => True) a kids) (hkids : 5 ≤ k → KidsC kids) :
    Calls Try.prog 22 #[.agg #[.int .i64 k, .string t, .int .i64 n, .slice a kids.len cp]] w (OfPost k t n kids w) := by
  have HS := Lib.hid hs
  clear hs
  obtain ⟨hn0, hn1⟩ := hn
  rcases (by omega : k = 1 ∨ k = 2 ∨ k = 3 ∨ k = 4 ∨ k = 5 ∨ k = 6 ∨ k = 7) with rfl | rfl | rfl | rfl | rfl | rfl | rfl
  · clear hkids
    go_enter Try.func22, Try.ntmps22
    go_wp2_with fail
    go_ret
    exact of_post rfl (.inl ⟨rfl, rfl⟩) ((Below.refl _ _).alloc (Nat.le_refl _) _)
  · clear hkids
    go_enter Try.func22, Try.ntmps22
    go_wp2_with fail
    go_ret
    exact of_post rfl (.inr (.inl ⟨rfl, rfl⟩)) ((Below.refl _ _).alloc (Nat.le_refl _) _)
  · clear hkids
    go_enter Try.func22, Try.ntmps22
    go_wp2_with fail
    go_ret
    exact of_post rfl (.inr (.inr (.inl ⟨rfl, rfl⟩))) ((Below.refl _ _).alloc (Nat.le_refl _) _)
  · clear hkids
    go_enter Try.func22, Try.ntmps22
    go_wp2_with fail
    go_ret
    exact of_post rfl (.inr (.inr (.inr (.inl ⟨rfl, rfl⟩)))) ((Below.refl _ _).alloc (Nat.le_refl _) _)
  · have HK := Lib.hid (hkids (by omega))
    clear hkids
    go_enter Try.func22, Try.ntmps22
    go_wp2_with (go_at_call 28; refine (HK.out a cp _ (HS.out.below ((Below.refl _ _).alloc (Nat.le_refl _) _))).mono ?_; rintro e w1 ⟨a1, cp1, rfl, hp, hg⟩; have HP := Lib.hid (hp.weak (ok' := fun i => w.heap.size ≤ i) (fun i _ h => by simp at h; omega)); have HG := Lib.hid (((Below.refl w.heap.size w).alloc (Nat.le_refl _) _).trans (hg.mono (by simp))); clear hp hg)
    go_ret
    exact of_post rfl (.inr (.inr (.inr (.inr ⟨by omega, a1, cp1, rfl, HP.out⟩)))) HG.out
  · have HK := Lib.hid (hkids (by omega))
    clear hkids
    go_enter Try.func22, Try.ntmps22
    go_wp2_with fail
    have c2 : (w.alloc (.cells #[.int .i64 6, .string t, .int .i64 n, .slice a kids.len cp] 26)).cell? ⟨w.heap.size, 2, none⟩ = some (.int .i64 n) := by rw [World.cell?_alloc_new]; rfl
    have c3 : (w.alloc (.cells #[.int .i64 6, .string t, .int .i64 n, .slice a kids.len cp] 26)).cell? ⟨w.heap.size, 3, none⟩ = some (.slice a kids.len cp) := by rw [World.cell?_alloc_new]; rfl
    have HB2 := Lib.hid (((Below.refl w.heap.size w).alloc (Nat.le_refl _) (.cells #[.int .i64 6, .string t, .int .i64 n, .slice a kids.len cp] 26)).drew)
    have HS2 := Lib.hid (HS.out.below HB2.out)
    go_region_held3 (fun w' => w'.cell? ⟨w.heap.size, 2, none⟩ = some (.int .i64 n) ∧ w'.cell? ⟨w.heap.size, 3, none⟩ = some (.slice a kids.len cp))
      (first
        | exact ⟨c2, c3⟩
        | (go_split_ands; exact ⟨(hg.cell (p := ⟨w.heap.size, 2, none⟩) (by simp)).trans c2, (hg.cell (p := ⟨w.heap.size, 3, none⟩) (by simp)).trans c3⟩))
      (first
        | (go_at_call 28; refine (HK.out a cp _ HS2.out).mono ?_; rintro e w1 ⟨a1, cp1, rfl, hp, hg⟩))
    all_goals
      first
        | (exfalso; omega)
        | (go_wp2_with fail
           go_ret
           have e := clamp_is hn0 hn1
           have HG : Below w.heap.size w w1 := HB2.out.trans (hg.mono (by simp))
           exact of_post rfl (.inr (.inr (.inr (.inr ⟨by omega, a1, cp1, by rw [if_pos rfl, e]; rfl, hp.weak (fun i _ h => by simp at h; omega)⟩)))) HG)
  · have HK := Lib.hid (hkids (by omega))
    clear hkids
    go_enter Try.func22, Try.ntmps22
    go_wp2_with (go_at_call 28; refine (HK.out a cp _ (HS.out.below ((Below.refl _ _).alloc (Nat.le_refl _) _))).mono ?_; rintro e w1 ⟨a1, cp1, rfl, hp, hg⟩; have HP := Lib.hid (hp.weak (ok' := fun i => w.heap.size ≤ i) (fun i _ h => by simp at h; omega)); have HG := Lib.hid (((Below.refl w.heap.size w).alloc (Nat.le_refl _) _).trans (hg.mono (by simp))); clear hp hg)
    go_ret
    exact of_post rfl (.inr (.inr (.inr (.inr ⟨by omega, a1, cp1, rfl, HP.out⟩)))) HG.out
end Go.Proofs.Ythkpoiideiimaaa
