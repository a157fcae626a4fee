/- What every program that is one answers of package fold. -/
import Derived.Test.YtmmhpejnfkienaaFold5
namespace Go.Proofs.Ytmmhpejnfkienaa
open Go Go.RowKit Go.PlainAid
set_option linter.unusedVariables false
theorem strsAt_tab (w : World) (xs : List ByteArray) (hx : xs.length ≤ 1000) : StrsAt (w.alloc (.cells (xs.map Value.string).toArray 9)) (some ⟨w.heap.size, 0, none⟩) xs.length xs :=
  ⟨rfl, by omega, .inr ⟨w.heap.size, 0, rfl, by simp, fun j hj => by rw [Nat.zero_add]; exact Bk.tab_cell w 9 _ rfl xs j hj⟩⟩
theorem below_tab {w wr w' : World} {o : Obj} (h : Below w.heap.size w wr) (hg : Below (wr.alloc o).heap.size (wr.alloc o) w') : Below w.heap.size w w' :=
  (h.alloc h.size o).trans (hg.mono (h.alloc h.size o).size)
namespace Bk
theorem f6_1 : foldFlow [⟨#[97]⟩, ⟨#[]⟩, ⟨#[]⟩, ⟨#[98]⟩] = ⟨#[97, 10, 10, 98]⟩ := by decide +kernel
theorem f6_2 : foldFlow [⟨#[]⟩, ⟨#[98]⟩] = ⟨#[32, 98]⟩ := by decide +kernel
theorem f6_3 : foldBlock [⟨#[97]⟩, ⟨#[98]⟩] = ⟨#[97, 32, 98]⟩ := by decide +kernel
theorem f6_4 : foldBlock [⟨#[97]⟩, ⟨#[32, 98]⟩] = ⟨#[97, 10, 32, 98]⟩ := by decide +kernel
theorem f6_5 : joinS [⟨#[97]⟩, ⟨#[98]⟩] 2 = ⟨#[97, 10, 98]⟩ := by decide +kernel
theorem z6_1 : sumZ [⟨#[97]⟩, ⟨#[]⟩, ⟨#[]⟩, ⟨#[98]⟩] 4 ≤ 140737488355328 := by decide +kernel
theorem z6_2 : sumZ [⟨#[]⟩, ⟨#[98]⟩] 2 ≤ 140737488355328 := by decide +kernel
theorem z6_3 : sumZ [⟨#[97]⟩, ⟨#[98]⟩] 2 ≤ 140737488355328 := by decide +kernel
theorem z6_4 : sumZ [⟨#[97]⟩, ⟨#[32, 98]⟩] 2 ≤ 140737488355328 := by decide +kernel
theorem z6_5 : sumZ [⟨#[97]⟩, ⟨#[98]⟩] 2 ≤ 140737488355328 := by decide +kernel
theorem t6_1 (w : World) : StrsAt (w.alloc (.cells #[.string ⟨#[97]⟩, .string ⟨#[]⟩, .string ⟨#[]⟩, .string ⟨#[98]⟩] 9)) (some ⟨w.heap.size, 0, none⟩) 4 [⟨#[97]⟩, ⟨#[]⟩, ⟨#[]⟩, ⟨#[98]⟩] := strsAt_tab w [⟨#[97]⟩, ⟨#[]⟩, ⟨#[]⟩, ⟨#[98]⟩] (by decide)
theorem t6_2 (w : World) : StrsAt (w.alloc (.cells #[.string ⟨#[]⟩, .string ⟨#[98]⟩] 9)) (some ⟨w.heap.size, 0, none⟩) 2 [⟨#[]⟩, ⟨#[98]⟩] := strsAt_tab w [⟨#[]⟩, ⟨#[98]⟩] (by decide)
theorem t6_3 (w : World) : StrsAt (w.alloc (.cells #[.string ⟨#[97]⟩, .string ⟨#[98]⟩] 9)) (some ⟨w.heap.size, 0, none⟩) 2 [⟨#[97]⟩, ⟨#[98]⟩] := strsAt_tab w [⟨#[97]⟩, ⟨#[98]⟩] (by decide)
theorem t6_4 (w : World) : StrsAt (w.alloc (.cells #[.string ⟨#[97]⟩, .string ⟨#[32, 98]⟩] 9)) (some ⟨w.heap.size, 0, none⟩) 2 [⟨#[97]⟩, ⟨#[32, 98]⟩] := strsAt_tab w [⟨#[97]⟩, ⟨#[32, 98]⟩] (by decide)
end Bk
set_option maxRecDepth 20000 in
set_option maxHeartbeats 1600000 in
theorem awake6 (w : World) : Calls Try.prog 54 #[] w fun e w' => e = .returned (.bool true) ∧ Below w.heap.size w w' := by
  have H0 := Lib.hid (Below.refl w.heap.size w)
  go_enter Try.func54, Try.ntmps54
  go_wp2_with first
    | (go_at_call 55; with_reducible refine (flow55_any _ 4 4 _ _ (Bk.t6_1 _) Bk.z6_1).mono ?_; rintro e w1 ⟨rfl, hg⟩; rw [Bk.f6_1]; have H1 := Lib.hid (below_tab H0.out hg); clear hg)
    | (go_at_call 55; with_reducible refine (flow55_any _ 2 2 _ _ (Bk.t6_2 _) Bk.z6_2).mono ?_; rintro e w2 ⟨rfl, hg⟩; rw [Bk.f6_2]; have H2 := Lib.hid (below_tab H1.out hg); clear hg)
    | (go_at_call 57; with_reducible refine (block57_any _ 2 2 _ _ (Bk.t6_3 _) Bk.z6_3).mono ?_; rintro e w3 ⟨rfl, hg⟩; rw [Bk.f6_3]; have H3 := Lib.hid (below_tab H2.out hg); clear hg)
    | (go_at_call 57; with_reducible refine (block57_any _ 2 2 _ _ (Bk.t6_4 _) Bk.z6_4).mono ?_; rintro e w4 ⟨rfl, hg⟩; rw [Bk.f6_4]; have H4 := Lib.hid (below_tab H3.out hg); clear hg)
    | (go_at_call 57; with_reducible refine (keep57_any _ 2 2 _ _ (Bk.t6_3 _) Bk.z6_5 (by decide)).mono ?_; rintro e w5 ⟨rfl, hg⟩; rw [Bk.f6_5]; have H5 := Lib.hid (below_tab H4.out hg); clear hg)
  go_ret
  exact ⟨rfl, H5.out⟩
end Go.Proofs.Ytmmhpejnfkienaa
