/- The law CallValues: contracts of what it calls. -/
import Derived.Test.YtiedenjcmkebaaaBase
set_option linter.unusedVariables false
namespace Go.Proofs.Ytiedenjcmkebaaa
open Go.RowKit

theorem and_i32_mask (n : Int) : bits .and .i32 n 2147483647 = n % 2147483648 := by
  unfold bits
  have e : (BitVec.ofInt 32 n &&& BitVec.ofInt 32 2147483647).toNat = (n % 4294967296).toNat % 2147483648 := by
    rw [BitVec.toNat_and, BitVec.toNat_ofInt, show (BitVec.ofInt 32 2147483647).toNat = 2 ^ 31 - 1 from by decide, Nat.and_two_pow_sub_one_eq_mod]
    simp
  show IntKind.i32.wrap ((BitVec.ofInt 32 n &&& BitVec.ofInt 32 2147483647).toNat : Int) = _
  rw [e, IntKind.wrap_i32]
  omega

set_option maxHeartbeats 400000 in
theorem callValue_ok (n : Int) (h0 : -2147483648 ≤ n) (h1 : n ≤ 2147483647) (w : World) :
    Calls Try.prog 71 #[.int .i32 n, .int .i64 0] w fun e w' => e = .returned (.int .u32 (n % 2147483648)) ∧ w = w' := by
  have hm := and_i32_mask n
  go_enter Try.func71, Try.ntmps71
  go_wp2
  go_ret
  refine ⟨ret_int ?_, rfl⟩
  first | rfl | (simp [IntKind.wrap, IntKind.bits, IntKind.signed]; omega)

set_option maxHeartbeats 400000 in
theorem callValue_err (n c : Int) (h0 : -1000 ≤ c) (h1 : c ≤ 1000) (h : c ≠ 0) (w : World) :
    Calls Try.prog 71 #[.int .i32 n, .int .i64 c] w fun e w' => e = .returned (.int .u32 ((-c) % 4294967296)) ∧ w = w' := by
  have hb : (c != 0) = true := by rw [bne_iff_ne]; exact h
  go_enter Try.func71, Try.ntmps71
  go_wp2
  go_ret
  exact ⟨rfl, rfl⟩

theorem mode_bits : ∀ n : Nat, n < 32 → (bits .and .u32 n 6 != 0) = decide (2 ≤ n % 8) ∧ (bits .and .u32 n 7 == 0) = decide (n % 8 = 0) ∧ (bits .and .u32 n 24 != 0) = decide (8 ≤ n) := by decide +kernel

/-- Is it a way to open? -/
def modeOk (n : Int) : Prop := n < 32 ∧ 0 < n % 8 ∧ (n < 8 ∨ 1 < n % 8)

set_option maxHeartbeats 400000 in
theorem callAwake_any (w : World) :
    Calls Try.prog 48 #[] w fun e w' => e = .returned (.bool true) ∧ w = w' := by
  have h1 : ∀ w, Calls Try.prog 71 #[.int .i32 0, .int .i64 13] w fun e w' => e = .returned (.int .u32 4294967283) ∧ w = w' := fun w => callValue_err 0 13 (by omega) (by omega) (by omega) w
  have H := Lib.hid h1
  clear h1
  go_enter Try.func48, Try.ntmps48
  go_wp2_with fail
  refine (H.out _).mono ?_; rintro e w1 ⟨rfl, rfl⟩
  go_wp2_with fail
  go_ret
  exact ⟨rfl, rfl⟩

end Go.Proofs.Ytiedenjcmkebaaa
