/- Labels: contracts of the reference's Join, Meet. -/
import Derived.Test.YtmieioaklgdbdaaDoorLabC
set_option linter.unusedVariables false
set_option linter.unusedSimpArgs false
namespace Go.Proofs.YtmieioaklgdbdaaDoor
open Go.RowKit

/-- Behind c rounds: the lower bits are joined. -/
def orTo (a b o : Nat) (c : Nat) : Prop := o < 65536 ∧ ∀ j, o.testBit j = if j < c then (a.testBit j || b.testBit j) else a.testBit j
def andTo (a b o : Nat) (c : Nat) : Prop := o < 65536 ∧ ∀ j, o.testBit j = if j < c then (a.testBit j && b.testBit j) else a.testBit j
theorem orTo_zero {a b : Nat} (ha : a < 65536) : orTo a b a 0 := ⟨ha, fun j => by rw [if_neg (by omega)]⟩
theorem andTo_zero {a b : Nat} (ha : a < 65536) : andTo a b a 0 := ⟨ha, fun j => by rw [if_neg (by omega)]⟩
theorem orTo_end {a b o : Nat} (hb : b < 65536) (h : orTo a b o 16) : o = a ||| b := by
  apply Nat.eq_of_testBit_eq
  intro j
  rw [h.2 j, Nat.testBit_or]
  by_cases hj : j < 16
  · rw [if_pos hj]
  · rw [if_neg hj, bit_high hb (by omega), Bool.or_false]
theorem andTo_end {a b o : Nat} (ha : a < 65536) (h : andTo a b o 16) : o = a &&& b := by
  apply Nat.eq_of_testBit_eq
  intro j
  rw [h.2 j, Nat.testBit_and]
  by_cases hj : j < 16
  · rw [if_pos hj]
  · rw [if_neg hj, bit_high ha (by omega), Bool.false_and]
theorem orTo_same {a b o c : Nat} (h : orTo a b o c) (hs : b.testBit c = false ∨ o.testBit c = true) : orTo a b o (c + 1) := ⟨h.1, fun j => by
  rw [h.2 j]
  by_cases hj : j = c
  · subst hj
    have e := h.2 j
    rw [if_neg (by omega)] at e
    rw [if_neg (by omega), if_pos (by omega)]
    rcases hs with hs | hs
    · rw [hs, Bool.or_false]
    · rw [← e, hs]; rfl
  · by_cases hc : j < c
    · rw [if_pos hc, if_pos (by omega)]
    · rw [if_neg hc, if_neg (by omega)]⟩
theorem andTo_same {a b o c : Nat} (h : andTo a b o c) (hs : b.testBit c = true ∨ o.testBit c = false) : andTo a b o (c + 1) := ⟨h.1, fun j => by
  rw [h.2 j]
  by_cases hj : j = c
  · subst hj
    have e := h.2 j
    rw [if_neg (by omega)] at e
    rw [if_neg (by omega), if_pos (by omega)]
    rcases hs with hs | hs
    · rw [hs, Bool.and_true]
    · rw [← e, hs]; rfl
  · by_cases hc : j < c
    · rw [if_pos hc, if_pos (by omega)]
    · rw [if_neg hc, if_neg (by omega)]⟩
theorem pow16 {c : Nat} (hc : c < 16) : 2 ^ c ≤ 32768 ∧ 0 < 2 ^ c := ⟨(Nat.pow_le_pow_right (by omega) (by omega) : 2 ^ c ≤ 2 ^ 15), Nat.two_pow_pos c⟩
theorem orTo_add {a b o c : Nat} (h : orTo a b o c) (hc : c < 16) (hb : b.testBit c = true) (ho : o.testBit c = false) : o + 2 ^ c < 65536 ∧ orTo a b (o + 2 ^ c) (c + 1) := by
  have hlt : o + 2 ^ c < 65536 := by
    have : o + 2 ^ c < 2 ^ 16 := Nat.lt_pow_two_of_testBit _ (fun i hi => by
      rw [bit_add o c i ho, decide_eq_false (by omega), Bool.false_or]
      exact bit_high h.1 hi)
    omega
  refine ⟨hlt, hlt, fun j => ?_⟩
  rw [bit_add o c j ho]
  by_cases hj : j = c
  · subst hj; rw [if_pos (by omega)]; simp [hb]
  · rw [decide_eq_false hj, Bool.false_or, h.2 j]
    by_cases hc : j < c
    · rw [if_pos hc, if_pos (by omega)]
    · rw [if_neg hc, if_neg (by omega)]
theorem andTo_sub {a b o c : Nat} (h : andTo a b o c) (hc : c < 16) (hb : b.testBit c = false) (ho : o.testBit c = true) : 2 ^ c ≤ o ∧ andTo a b (o - 2 ^ c) (c + 1) := by
  refine ⟨(bit_sub o c c ho).1, Nat.lt_of_le_of_lt (Nat.sub_le _ _) h.1, fun j => ?_⟩
  rw [(bit_sub o c j ho).2]
  by_cases hj : j = c
  · subst hj; rw [if_pos (by omega)]; simp [hb]
  · rw [decide_eq_false hj, Bool.not_false, Bool.true_and, h.2 j]
    by_cases hc : j < c
    · rw [if_pos hc, if_pos (by omega)]
    · rw [if_neg hc, if_neg (by omega)]

end Go.Proofs.YtmieioaklgdbdaaDoor
