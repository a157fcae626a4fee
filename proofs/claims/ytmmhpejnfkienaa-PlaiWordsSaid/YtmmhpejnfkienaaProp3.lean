/- The reference's Props: contract. -/
import Derived.Test.YtmmhpejnfkienaaProp2
import Derived.Test.YtmmhpejnfkienaaRow6
namespace Go.Proofs.Ytmmhpejnfkienaa
open Go Go.RowKit Go.PlainAid
set_option linter.unusedVariables false
namespace Bk
theorem tail_way {α : Type} {s : ByteArray} {fl : Bool} {q : Nat} {R A B : α} (h : R = if endsB s (q : Int) = false ∧ (fl && flowB (bt s q)) = false then A else B) :
    (q < s.size ∧ endsB s (q : Int) = false ∧ (fl = false ∨ (fl = true ∧ flowB (bt s q) = false)) ∧ Hid (R = A)) ∨
    (((endsB s (q : Int) = true) ∨ (q < s.size ∧ endsB s (q : Int) = false ∧ fl = true ∧ flowB (bt s q) = true)) ∧ Hid (R = B)) := by
  cases hE : endsB s (q : Int) with
  | true => exact .inr ⟨.inl rfl, Lib.hid (by rw [h, hE]; simp)⟩
  | false =>
    have hql : q < s.size := by
      apply Nat.lt_of_not_le
      intro hh
      have := ends_out (s := s) (a := (q : Int)) (.inr (by omega))
      rw [hE] at this; exact Bool.noConfusion this
    cases hfl : fl with
    | false => exact .inl ⟨hql, rfl, .inl rfl, Lib.hid (by rw [h, hE, hfl]; simp)⟩
    | true =>
      cases hF2 : flowB (bt s q) with
      | false => exact .inl ⟨hql, rfl, .inr ⟨rfl, rfl⟩, Lib.hid (by rw [h, hE, hF2, hfl]; simp)⟩
      | true => exact .inr ⟨.inr ⟨hql, rfl, rfl, rfl⟩, Lib.hid (by rw [h, hE, hF2, hfl]; simp)⟩
theorem first_row {s : ByteArray} {q : Nat} (h : q ≤ s.size) : firstN s q (toN s q) = firstN s q s.size := by
  have h1 := toN_ge s q
  have h2 := toN_le h
  have h3 := firstN_ge s q (toN s q)
  have h4 := firstN_le (s := s) h1
  refine (firstN_eq h3 (by omega) (fun j a b => firstN_all (m := toN s q) a b) (fun hl => ?_)).symm
  by_cases e : firstN s q (toN s q) < toN s q
  · exact firstN_end e
  · have e2 : firstN s q (toN s q) = toN s q := by omega
    rw [e2] at hl ⊢
    rw [toN_end hl]; rfl
/-- One step of readP, by what stands at the place. -/
theorem readP_step (s : ByteArray) (fl : Bool) (f p : Nat) (a t : ByteArray) (e : Nat) :
    ((s.size ≤ p ∨ (p < s.size ∧ (bt s p == 38) = false ∧ (bt s p == 33) = false)) ∧ Hid (readP s fl (f + 1) p a t e = (a, t, e, 0))) ∨
    (p < s.size ∧ (bt s p == 38) = true ∧ nameN s ((p + 1 : Nat) : Int) = 0 ∧ Hid (readP s fl (f + 1) p a t e = (ByteArray.empty, ByteArray.empty, p, 5))) ∨
    (p < s.size ∧ (bt s p == 38) = true ∧ 0 < nameN s ((p + 1 : Nat) : Int) ∧ a.toList.isEmpty = false ∧ Hid (readP s fl (f + 1) p a t e = (ByteArray.empty, ByteArray.empty, p, 5))) ∨
    (p < s.size ∧ (bt s p == 38) = true ∧ 0 < nameN s ((p + 1 : Nat) : Int) ∧ a.toList = [] ∧ Hid (readP s fl (f + 1) p a t e =
      if endsB s ((p + 1 + nameN s ((p + 1 : Nat) : Int) : Nat) : Int) = false ∧ (fl && flowB (bt s (p + 1 + nameN s ((p + 1 : Nat) : Int)))) = false then (ByteArray.empty, ByteArray.empty, p + 1 + nameN s ((p + 1 : Nat) : Int), 5)
      else if firstN s (p + 1 + nameN s ((p + 1 : Nat) : Int)) s.size = p + 1 + nameN s ((p + 1 : Nat) : Int) then (s.extract (p + 1) (p + 1 + nameN s ((p + 1 : Nat) : Int)), t, p + 1 + nameN s ((p + 1 : Nat) : Int), 0)
      else readP s fl f (firstN s (p + 1 + nameN s ((p + 1 : Nat) : Int)) s.size) (s.extract (p + 1) (p + 1 + nameN s ((p + 1 : Nat) : Int))) t (p + 1 + nameN s ((p + 1 : Nat) : Int)))) ∨
    (p < s.size ∧ (bt s p == 38) = false ∧ (bt s p == 33) = true ∧ t.toList.isEmpty = false ∧ Hid (readP s fl (f + 1) p a t e = (ByteArray.empty, ByteArray.empty, p, 5))) ∨
    (p < s.size ∧ (bt s p == 38) = false ∧ (bt s p == 33) = true ∧ t.toList = [] ∧ Hid (readP s fl (f + 1) p a t e =
      if endsB s ((p + sizeN s p : Nat) : Int) = false ∧ (fl && flowB (bt s (p + sizeN s p))) = false then (ByteArray.empty, ByteArray.empty, p + sizeN s p, 5)
      else if firstN s (p + sizeN s p) s.size = p + sizeN s p then (a, s.extract p (p + sizeN s p), p + sizeN s p, 0)
      else readP s fl f (firstN s (p + sizeN s p) s.size) a (s.extract p (p + sizeN s p)) (p + sizeN s p))) := by
  have step : ∀ q er a' t', oneN s p a t = (q, er, a', t') → readP s fl (f + 1) p a t e = if er ≠ 0 then (ByteArray.empty, ByteArray.empty, q, er)
      else if q = p then (a', t', e, 0)
      else if endsB s (q : Int) = false ∧ (fl && flowB (bt s q)) = false then (ByteArray.empty, ByteArray.empty, q, 5)
      else if firstN s q s.size = q then (a', t', q, 0) else readP s fl f (firstN s q s.size) a' t' q := by
    intro q er a' t' h
    show (if (oneN s p a t).2.1 ≠ 0 then _ else _) = _
    rw [h]
  by_cases hlt : p < s.size
  · by_cases h38 : bt s p = 38
    · have hb : (bt s p == 38) = true := by rw [h38]; rfl
      by_cases h0 : nameN s ((p + 1 : Nat) : Int) = 0
      · refine .inr (.inl ⟨hlt, hb, h0, Lib.hid ?_⟩)
        rw [step p 5 a t (by unfold oneN; rw [if_neg (by omega), if_pos h38, if_pos (.inl h0)])]; simp
      · cases ha : a.toList.isEmpty with
        | false =>
          refine .inr (.inr (.inl ⟨hlt, hb, by omega, rfl, Lib.hid ?_⟩))
          rw [step p 5 a t (by unfold oneN; rw [if_neg (by omega), if_pos h38, if_pos (.inr ha)])]; simp
        | true =>
          refine .inr (.inr (.inr (.inl ⟨hlt, hb, by omega, by simpa using ha, Lib.hid ?_⟩)))
          rw [step (p + 1 + nameN s ((p + 1 : Nat) : Int)) 0 (s.extract (p + 1) (p + 1 + nameN s ((p + 1 : Nat) : Int))) t (by
            unfold oneN; rw [if_neg (by omega), if_pos h38, if_neg]
            rintro (q | q)
            · exact h0 q
            · rw [ha] at q; exact Bool.noConfusion q)]
          rw [if_neg (by simp), if_neg (by omega)]
    · have hb : (bt s p == 38) = false := by simpa using h38
      by_cases h33 : bt s p = 33
      · have hb2 : (bt s p == 33) = true := by rw [h33]; rfl
        have hz := size_le hlt
        cases ht : t.toList.isEmpty with
        | false =>
          refine .inr (.inr (.inr (.inr (.inl ⟨hlt, hb, hb2, rfl, Lib.hid ?_⟩))))
          rw [step p 5 a t (by unfold oneN; rw [if_neg (by omega), if_neg h38, if_pos h33, if_pos ht])]; simp
        | true =>
          refine .inr (.inr (.inr (.inr (.inr ⟨hlt, hb, hb2, by simpa using ht, Lib.hid ?_⟩))))
          rw [step (p + sizeN s p) 0 a (s.extract p (p + sizeN s p)) (by unfold oneN; rw [if_neg (by omega), if_neg h38, if_pos h33, if_neg (by rw [ht]; decide)])]
          rw [if_neg (by simp), if_neg (by omega)]
      · refine .inl ⟨.inr ⟨hlt, hb, by simpa using h33⟩, Lib.hid ?_⟩
        rw [step p 0 a t (by unfold oneN; rw [if_neg (by omega), if_neg h38, if_neg h33])]; simp
  · refine .inl ⟨.inl (by omega), Lib.hid ?_⟩
    rw [step p 0 a t (by unfold oneN; rw [if_pos (by omega)])]; simp
end Bk
end Go.Proofs.Ytmmhpejnfkienaa
