/- Labels: contracts of Has, Leq. -/
import Derived.Test.YtapcbfeifeobhaaLabA
set_option linter.unusedVariables false
set_option linter.unusedSimpArgs false
namespace Go.Proofs.Ytapcbfeifeobhaa
open Go.RowKit

theorem shr_bit (x c : Nat) : (((x : Int) / 2 ^ c).tmod 2 == 1) = x.testBit c := by
  have e : ((x : Int) / 2 ^ c) = ((x / 2 ^ c : Nat) : Int) := by simp
  rw [e, Nat.testBit_eq_decide_div_mod_eq]
  generalize x / 2 ^ c = y
  rw [Int.tmod_eq_emod_of_nonneg (by omega)]
  by_cases h : y % 2 = 1
  · rw [decide_eq_true h, beq_iff_eq]; omega
  · rw [decide_eq_false h, beq_eq_false_iff_ne]; omega

theorem ofInt16 (a : Nat) (ha : a < 65536) : (BitVec.ofInt 16 (a : Int)).toNat = a := by
  rw [BitVec.ofInt_natCast, BitVec.toNat_ofNat]; exact Nat.mod_eq_of_lt (by omega)
theorem bits_and_u16 (a b : Nat) (ha : a < 65536) (hb : b < 65536) : bits .and .u16 (a : Int) (b : Int) = ((a &&& b : Nat) : Int) := by
  have hx : a &&& b < 2 ^ 16 := Nat.and_lt_two_pow _ (by omega)
  show IntKind.u16.wrap ((BitVec.ofInt 16 (a : Int) &&& BitVec.ofInt 16 (b : Int)).toNat : Int) = _
  rw [BitVec.toNat_and, ofInt16 a ha, ofInt16 b hb, IntKind.wrap_u16]
  omega
theorem bits_or_u16 (a b : Nat) (ha : a < 65536) (hb : b < 65536) : bits .or .u16 (a : Int) (b : Int) = ((a ||| b : Nat) : Int) := by
  have hx : a ||| b < 2 ^ 16 := Nat.or_lt_two_pow (by omega) (by omega)
  show IntKind.u16.wrap ((BitVec.ofInt 16 (a : Int) ||| BitVec.ofInt 16 (b : Int)).toNat : Int) = _
  rw [BitVec.toNat_or, ofInt16 a ha, ofInt16 b hb, IntKind.wrap_u16]
  omega
theorem bits_andNot_u16 (a b : Nat) (ha : a < 65536) (hb : b < 65536) : bits .andNot .u16 (a : Int) (b : Int) = ((a &&& (65535 - b) : Nat) : Int) := by
  have hx : a &&& (65535 - b) < 2 ^ 16 := Nat.and_lt_two_pow _ (by omega)
  show IntKind.u16.wrap ((BitVec.ofInt 16 (a : Int) &&& ~~~ BitVec.ofInt 16 (b : Int)).toNat : Int) = _
  rw [BitVec.toNat_and, BitVec.toNat_not, ofInt16 a ha, ofInt16 b hb, IntKind.wrap_u16]
  have : 2 ^ 16 - 1 - b = 65535 - b := by omega
  rw [this]
  omega
theorem andNot_zero (a b : Nat) (ha : a < 65536) (hb : b < 65536) : (bits .andNot .u16 (a : Int) (b : Int) == 0) = subC a b := by
  rw [bits_andNot_u16 a b ha hb]
  have hbit : ∀ j, j < 16 → (a &&& (65535 - b)).testBit j = (a.testBit j && !b.testBit j) := by
    intro j hj
    rw [Nat.testBit_and, show 65535 - b = 2 ^ 16 - (b + 1) by omega, Nat.testBit_two_pow_sub_succ (by omega)]
    simp [hj]
  have hx : a &&& (65535 - b) < 65536 := Nat.lt_of_le_of_lt Nat.and_le_left ha
  by_cases h : subC a b = true
  · rw [h]
    rw [subC_iff] at h
    have : a &&& (65535 - b) = 0 := bits_eq hx (by omega) (fun j hj => by
      rw [hbit j hj, Nat.zero_testBit]
      cases hj' : a.testBit j
      · rfl
      · simp [h j hj hj'])
    rw [this]; rfl
  · have h' : subC a b = false := by simpa using h
    rw [h', beq_eq_false_iff_ne]
    intro h0
    apply h
    rw [subC_iff]
    intro j hj haj
    have e := hbit j hj
    rw [show a &&& (65535 - b) = 0 by omega, Nat.zero_testBit, haj] at e
    cases hbj : b.testBit j
    · rw [hbj] at e; cases e
    · rfl

set_option maxHeartbeats 1000000 in
theorem labLeq_any (p q : Nat × Nat) (hp : okL p) (hq : okL q) (w : World) :
    Calls Try.prog 79 #[labV p, labV q] w fun e w' => e = .returned (.bool (leqL p q)) ∧ Below w.heap.size w w' := by
  unfold labV
  go_enter Try.func79, Try.ntmps79
  by_cases h : p.1 ≤ q.1
  · go_wp2_with fail
    go_ret
    exact ⟨ret_bool (by rw [andNot_zero _ _ hp.2 hq.2]; simp [leqL, h]), bnewAfter (bnew _ _) _⟩
  · go_wp2_with fail
    go_ret
    exact ⟨ret_bool (by simp [leqL, h]), bnewAfter (bnew _ _) _⟩

end Go.Proofs.Ytapcbfeifeobhaa
